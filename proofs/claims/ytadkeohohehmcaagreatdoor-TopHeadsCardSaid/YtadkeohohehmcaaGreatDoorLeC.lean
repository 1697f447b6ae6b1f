/- Several texts in one. -/
import Derived.Test.YtadkeohohehmcaaGreatDoorVeA
import Derived.Test.YtadkeohohehmcaaGreatDoorHeA
import Derived.Test.YtadkeohohehmcaaGreatDoorSmA
section
/- The leaves of an epoch. -/
namespace Go.Proofs.YtadkeohohehmcaaGreatDoor.Top
open Go.RowKit Go.Proofs.YtadkeohohehmcaaGreatDoorW.PrintWords Go.Proofs.YtadkeohohehmcaaGreatDoorW.PrintLast Go.Proofs.YtadkeohohehmcaaGreatDoorW.PrintMore Go.Proofs.YtadkeohohehmcaaGreatDoor.PTop
set_option linter.unusedVariables false
set_option linter.unusedSimpArgs false
attribute [local go_sem] Oper.semAt_some

theorem lastF_take_take (vs : List S68) (m i : Nat) (h : i ≤ m) : (vs.take m).take i = vs.take i := by rw [List.take_take, Nat.min_eq_left h]
theorem CheckOk.take {vs : List S68} (h : CheckOk vs) (m : Nat) : CheckOk (vs.take m) := by
  refine ⟨by rw [List.length_take]; have := h.1; omega, fun i x hx => ?_⟩
  have hi : i < m := by
    have := (List.getElem?_eq_some_iff.1 hx).1
    rw [List.length_take] at this
    omega
  rw [lastF_take_take vs m i (by omega)]
  rw [List.getElem?_take_of_lt hi] at hx
  exact h.2 i x hx
theorem CheckOk.atF {vs : List S68} (h : CheckOk vs) (e : Int) : CheckOk (atF e vs) := by
  rw [atF_take]
  exact h.take _
/-- Users' cells, to be read. -/
def UsR (w : World) : List Usr → List Value → Prop
  | [], cs => cs = []
  | u :: us, cs => ∃ v r, cs = .string u.name :: v :: r ∧ Vs w v u.vs ∧ UsR w us r
theorem UsR.of {w : World} {base : Nat} : ∀ {us : List Usr} {cs : List Value}, UsC w base us cs → UsR w us cs
  | [], cs, h => h
  | u :: us, cs, ⟨v, r, h1, h2, h3⟩ => ⟨v, r, h1, Reads.of_own h2, UsR.of h3⟩
theorem UsR.below {w w' : World} (hb : Below w.heap.size w w') : ∀ {us : List Usr} {cs : List Value}, UsR w us cs → UsR w' us cs
  | [], cs, h => h
  | u :: us, cs, ⟨v, r, h1, h2, h3⟩ => ⟨v, r, h1, Reads.below h2 hb, UsR.below hb h3⟩
theorem UsR.at_ {w : World} : ∀ {us : List Usr} {cs : List Value}, UsR w us cs → ∀ (i : Nat) (u : Usr), us[i]? = some u → ∃ v, cs[i * 2]? = some (.string u.name) ∧ cs[i * 2 + 1]? = some v ∧ Vs w v u.vs
  | [], cs, h, i, u, hu => by simp at hu
  | y :: us, cs, ⟨v, r, h1, h2, h3⟩, 0, u, hu => by
    obtain rfl : y = u := by simpa using hu
    subst h1
    exact ⟨v, rfl, rfl, h2⟩
  | y :: us, cs, ⟨v, r, h1, h2, h3⟩, i + 1, u, hu => by
    obtain ⟨v2, a, b, c⟩ := UsR.at_ h3 i u (by simpa using hu)
    subst h1
    refine ⟨v2, ?_, ?_, c⟩
    · rw [show (i + 1) * 2 = i * 2 + 1 + 1 by omega, List.getElem?_cons_succ, List.getElem?_cons_succ]; exact a
    · rw [show (i + 1) * 2 + 1 = i * 2 + 1 + 1 + 1 by omega, List.getElem?_cons_succ, List.getElem?_cons_succ]; exact b
/-- A user in form: as much of it as reading wants. -/
structure UsOk (u : Usr) : Prop where
  name : u.name.size ≤ 32
  vs : CheckOk u.vs
def mkLf (KS : List Int) (n : ByteArray) (vs : List S68) : Lf := ⟨pathF KS n, vdigF KS vs, ⟨pathF_len _ _, fun x hx => pathF_byte _ _ x hx⟩, vdigF_len _ _⟩
theorem mkLf_enc (KS : List Int) (n : ByteArray) (vs : List S68) : (mkLf KS n vs).enc = u8s (pathF KS n ++ vdigF KS vs) := by
  rw [Lf.enc]
  dsimp only [mkLf]
def lfOf (KS : List Int) (e : Int) (u : Usr) : List Lf := if atF e u.vs = [] then [] else [mkLf KS u.name (atF e u.vs)]
def leavesF (KS : List Int) (e : Int) (us : List Usr) : List Lf := us.flatMap (lfOf KS e)
theorem leavesF_append (KS : List Int) (e : Int) (a b : List Usr) : leavesF KS e (a ++ b) = leavesF KS e a ++ leavesF KS e b := by unfold leavesF; rw [List.flatMap_append]
theorem leavesF_len (KS : List Int) (e : Int) : ∀ us : List Usr, (leavesF KS e us).length ≤ us.length
  | [] => by simp [leavesF]
  | u :: us => by
    have := leavesF_len KS e us
    unfold leavesF at this ⊢
    rw [List.flatMap_cons, List.length_append, List.length_cons]
    have : (lfOf KS e u).length ≤ 1 := by unfold lfOf; split <;> simp
    omega
theorem lfC_append : ∀ a b : List Lf, lfC (a ++ b) = lfC a ++ lfC b
  | [], b => rfl
  | x :: r, b => by rw [List.cons_append, lfC, lfC, lfC_append r b, List.append_assoc]
def lfAt : Nat → Option (Nat × Nat) := fun i => (#[(0, 32), (32, 32)] : Array (Nat × Nat))[i]?
set_option maxRecDepth 1000000 in
theorem places89 : (match Tryz.prog.underlying 89 with | some (.struct fields) => fields.toList.mapM (fun f => (Tryz.prog.info? f.type).map fun i => (f.offset, i.size)) | _ => none) = some [(0, 32), (32, 32)] := by kernel_rfl
set_option maxRecDepth 1000000 in
theorem built89 (ps : List (Nat × Value)) : Tryz.prog.built 89 ps = Instr.fill lfAt z89.toArray ps := by
  have h := places89
  rw [Tryz.underlying89] at h
  have := built_eq zero89 Tryz.underlying89 h ps
  rw [this]
  rfl
theorem built_lf (p v : List Int) (hp : p.length = 32) (hv : v.length = 32) : Tryz.prog.built 89 [(0, .agg (u8s p).toArray), (1, .agg (u8s v).toArray)] = some (u8s (p ++ v)).toArray := by
  have hz : z89.length = 64 := rfl
  rw [built89, fill_one lfAt _ 0 0 32 _ _ rfl (by simp [Value.cells, hp]) (by rw [List.size_toArray, hz]; decide), fill_one lfAt _ 1 32 32 _ [] rfl (by simp [Value.cells, hv]) (by simp [Value.cells, hp, hz]), Instr.fill]
  congr 1
  simp [Value.cells, hp, hv, hz, List.take_append, List.drop_append]
theorem wp_build2 {o : Oper} {a : Act} {w : World} {K : Act → World → Prop} {Q : Exit → Act → World → Prop} (t : TypeId) (parts : Array (Nat × Operand)) (ho : o.op = .build t parts)
    (ps : List (Nat × Value)) (hps : (parts.map fun (i, x) => (i, a.eval x)).toList = ps) (cs : Array Value) (hb : Tryz.prog.built t ps = some cs) (h : K (a.put o.dst (.agg cs)) w) : o.wp Tryz.prog a w K Q := by
  refine Go.wp_build t parts ho (by rw [hps, hb]; rfl) ?_
  rw [hps, hb]
  exact h
theorem fill89 (cs : List Value) (h : cs.length = 64) : Instr.fill (fun i => some (i * 64, 64)) ((Array.range (1 * 64)).map (fun t => (Value.agg zLfc.toArray).cells[t % (Value.agg zLfc.toArray).cells.size]!)) [(0, .agg cs.toArray)] = some cs.toArray := by
  rw [fill_one _ _ 0 0 64 _ [] rfl (by simp [Value.cells, h]) (by simp), Instr.fill]
  congr 1
  simp [Value.cells, h]
/-- A work's four cells' reading: its users. -/
structure UsAt (w : World) (wb : Nat) (us : List Usr) : Prop where
  at_ : ∃ x0 x1 x2 x3 uc, w.heap[wb]? = some (.cells #[x0, x1, x2, x3] 47 (0, 0)) ∧ Reads w 2 x1 us.length uc ∧ UsR w us uc
def LvPost (l : List Lf) (w : World) (e : Ending) (w' : World) : Prop := ∃ v', e = .returned v' ∧ w'.ownsRow w.heap.size 89 64 v' l.length (lfC l) ∧ Below w.heap.size w w'
structure LvL (KS : List Int) (ep : Int) (us : List Usr) (w wr : World) (s5 s17 : Value) (i : Nat) : Prop where
  ix : s17 = .int .i64 (i : Int)
  le : i ≤ us.length
  row : wr.ownsRow w.heap.size 89 64 s5 (leavesF KS ep (us.take i)).length (lfC (leavesF KS ep (us.take i)))
  below : Below w.heap.size w wr
theorem z63 : (Tryz.prog.info? 63).map (·.zero) = some (some (.agg #[.string ⟨#[]⟩, .slice none 0 0])) := by kernel_rfl
set_option maxHeartbeats 4000000 in
set_option maxRecDepth 100000 in
theorem leaves_c (KS : List Int) (us : List Usr) (ep : Int) (wb : Nat) (w : World) (hk : HKey KS w) (hu : UsAt w wb us) (hok : ∀ u ∈ us, UsOk u) (hm : us.length ≤ 1000) :
    Calls Tryz.prog 20 #[.pointer (some ⟨wb, 0, none⟩), .int .i64 ep] w fun e w' => LvPost (leavesF KS ep us) w e w' := by
  obtain ⟨x0, x1, x2, x3, uc, hwb, hrd, hus⟩ := hu.at_
  have hw0 := hk.pos
  obtain ⟨A, c, rfl, hlc⟩ := Reads.form hrd
  have cw : w.cell? ⟨wb, 1, none⟩ = some (.slice A us.length c) := cell_in (l := [x0, .slice A us.length c, x2, x3]) hwb rfl
  have HRD := Aside0.mk hrd
  have HUS := Aside0.mk hus
  have HOK := Aside0.mk hok
  have HK := Aside0.mk hk
  clear hk hu hwb hrd hus hok
  go_enter Tryz.func20, Tryz.ntmps20
  go_wp2_with fail
  go_loopg [5, 17] us.length (fun gg s5 s17 wr => ∃ i : Nat, us.length - i ≤ gg ∧ Aside (LvL KS ep us w wr s5 s17 i))
  case atStart => exact ⟨0, by omega, ⟨rfl, by omega, by simpa [leavesF, lfC] using World.ownsRow_nil w _ 89 64, Below.refl _ _⟩⟩
  case round =>
    obtain ⟨i, hgg, L⟩ := hrel
    have LL := Aside0.mk L.out
    obtain rfl := LL.out.ix
    have hle := LL.out.le
    clear L cw
    by_cases hin : i < us.length
    · have hi0 : (i : Int) < (us.length : Int) := by omega
      have hge : (0 : Int) ≤ (i : Int) := by omega
      have hx : us[i]? = some us[i] := List.getElem?_eq_getElem hin
      obtain ⟨v, hc0, hc1, hv⟩ := HUS.out.at_ i _ hx
      obtain ⟨b, off, rfl, hcs⟩ : ∃ b off, A = some ⟨b, off, none⟩ ∧ ∀ j u, uc[j]? = some u → w.cell? ⟨b, off + j, none⟩ = some u := by
        rcases HRD.out.2 with ⟨_, h1⟩ | ⟨b, off, _, h1, _, h2⟩
        · omega
        · injection h1 with h1
          exact ⟨b, off, h1, h2⟩
      have qr := LL.out.below
      have a0 := hcs _ _ hc0
      have a1 := hcs _ _ hc1
      have hbl : b < w.heap.size := block_lt_of_cell a0
      have rl : wr.rangeAt b (off + i * 2) [.string us[i].name, v] := fun j u hj => by
        have hl : j < 2 := (List.getElem?_eq_some_iff.1 hj).1
        have hwr := qr.block b hbl
        match j, hl with
        | 0, _ => rw [← hj]; exact (World.cell?_of_block (w := w) hwr).trans a0
        | 1, _ => rw [← hj]; exact (World.cell?_of_block (w := w) hwr).trans a1
      have UO := HOK.out us[i] (List.getElem_mem hin)
      have TK : Aside0 (leavesF KS ep (us.take (i + 1)) = leavesF KS ep (us.take i) ++ lfOf KS ep us[i]) := ⟨by rw [List.take_add_one, hx, leavesF_append]; simp [leavesF]⟩
      have hll : (leavesF KS ep (us.take i)).length ≤ 1000 := by have := leavesF_len KS ep (us.take i); rw [List.length_take] at this; omega
      obtain ⟨va, vc, rfl, _⟩ := Reads.form hv
      have HVV := Aside0.mk hv
      have UOO := Aside0.mk UO
      have AT : Aside0 (∀ W, Below w.heap.size w W → Calls Tryz.prog 36 #[.slice va us[i].vs.length vc, .int .i64 ep] W fun en w' => AtPost (atF ep us[i].vs) W en w') := ⟨fun W hW => at_c _ us[i].vs ep W (Reads.below hv hW) UO.vs⟩
      have DG : Aside0 (∀ (v : Value) W, Below w.heap.size w W → Vs W v (atF ep us[i].vs) → Calls Tryz.prog 37 #[v] W fun e w' => e = .returned (.tuple #[dv (vdigF KS (atF ep us[i].vs)), .int .i64 0]) ∧ Below W.heap.size W w') := ⟨fun v W hW hvv => vdigest_c KS v _ W (HK.out.below hW hw0) hvv (UO.vs.atF ep)⟩
      have OF : Aside0 (∀ W, Below w.heap.size w W → Calls Tryz.prog 38 #[.string us[i].name] W fun e w' => e = .returned (dv (pathF KS us[i].name)) ∧ Below W.heap.size W w') := ⟨fun W hW => of_c KS us[i].name (by have := UO.name; omega) W (HK.out.below hW hw0)⟩
      have hi63 : (Tryz.prog.info? 63).map (·.size) = some [Value.string us[i].name, .slice va us[i].vs.length vc].length := by kernel_rfl
      have hi63a : (Tryz.prog.info? 63).map (·.size) = some #[Value.string us[i].name, .slice va us[i].vs.length vc].size := by kernel_rfl
      have hz63 : #[Value.string ⟨#[]⟩, .slice none 0 0].size = #[Value.string us[i].name, .slice va us[i].vs.length vc].size := rfl
      have h163 : #[Value.string us[i].name, .slice va us[i].vs.length vc].all (·.oneCell') = true := by simp [Value.oneCell']
      clear a0 a1 hcs hc0 hc1 hv UO hx
      go_upto_region 5 with (first | (refine wpList_load_mid rfl 63 (.tmp 19) rfl b (off + i * 2) rfl _ _ rl Tryz.underlying63 rfl hi63 ?_) | (refine wpList_allocW rfl 63 rfl _ z63 ?_; intro W3 b3 s3 k3) | (refine wpList_store_row rfl 63 (.tmp 7) (.tmp 20) rfl wr.heap.size _ rfl rfl 63 _ k3 hi63a hz63 h163 ?_))
      have kx := setRow_heap W3 wr.heap.size _ #[Value.string us[i].name, .slice va us[i].vs.length vc] 63 (0, 0) k3
      have bx : Below wr.heap.size wr (W3.setRow wr.heap.size #[Value.string us[i].name, .slice va us[i].vs.length vc]) := below_setRow b3 _ (Nat.le_refl _) _
      have sx : (W3.setRow wr.heap.size #[Value.string us[i].name, .slice va us[i].vs.length vc]).heap.size = wr.heap.size + 1 := by rw [size_setRow]; omega
      generalize W3.setRow wr.heap.size #[Value.string us[i].name, .slice va us[i].vs.length vc] = W5 at kx bx sx ⊢
      have hwr := qr.size
      have q5 : Below w.heap.size w W5 := qr.trans (bx.mono hwr)
      have xc1 : W5.cell? ⟨wr.heap.size, 1, none⟩ = some (.slice va us[i].vs.length vc) := cell_in (l := [.string us[i].name, .slice va us[i].vs.length vc]) kx rfl
      have A5 := Aside0.mk (AT.out W5 q5)
      have SX := Aside0.mk sx
      clear k3 b3 s3 sx hi63 hi63a hz63 h163 AT rl
      obtain ⟨ro, hro⟩ : ∃ ro, ro = wr.heap.size := ⟨_, rfl⟩
      rw [← hro] at kx bx xc1 hwr SX ⊢
      have HRO := Aside0.mk hro
      clear hro
      generalize us[i].vs.length = un at *
      go_upto_region 6 with (go_at_call 36; refine A5.out.mono ?_; rintro en W6 ⟨v6, rfl, ho6, hb6⟩; refine Aside0.out ?_)
      refine ⟨?_⟩
      obtain ⟨A6, c6, rfl, hlc6⟩ := (Reads.of_own ho6).form
      have hs5 := q5.size
      have hs6 := hb6.size
      have sx := SX.out
      have q6 : Below w.heap.size w W6 := q5.trans (hb6.mono hs5)
      have kx6 := (hb6.block ro (by omega)).trans kx
      have VS6 : Vs W6 (.slice A6 (atF ep us[i].vs).length c6) (atF ep us[i].vs) := Reads.of_own ho6
      have HV6 := Aside0.mk VS6
      have br6 : Below ro wr W6 := bx.trans (hb6.mono (by omega))
      have BR6 : Aside0 (Below wr.heap.size wr W6) := ⟨by rw [← HRO.out]; exact br6⟩
      have hwi : IntKind.i64.wrap ((i : Int) + 1) = (i : Int) + 1 := by simp [IntKind.wrap, IntKind.bits, IntKind.signed]; omega
      have LFO : Aside0 (lfOf KS ep us[i] = if atF ep us[i].vs = [] then [] else [mkLf KS us[i].name (atF ep us[i].vs)]) := ⟨rfl⟩
      clear A5 ho6 hb6 xc1 kx bx VS6
      by_cases hem : atF ep us[i].vs = []
      · have hl0 : (atF ep us[i].vs).length = 0 := by rw [hem]; rfl
        rw [hl0]
        have LN : Aside0 (leavesF KS ep (us.take (i + 1)) = leavesF KS ep (us.take i)) := ⟨by rw [TK.out, LFO.out, if_pos hem, List.append_nil]⟩
        clear hem LFO
        go_wp2_with fail
        go_roundg (us.length - (i + 1))
        case measure => omega
        case rel => exact ⟨i + 1, Nat.le_refl _, ⟨by simp, by omega, by rw [LN.out]; exact own_move LL.out.row fun k e => BR6.out.block k (LL.out.row.lt k e).2, q6⟩⟩
      · have hl0 : 0 < (atF ep us[i].vs).length := List.length_pos_iff.2 hem
        have hl0i : ((atF ep us[i].vs).length : Int) > 0 := by omega
        have LN : Aside0 (leavesF KS ep (us.take (i + 1)) = leavesF KS ep (us.take i) ++ [mkLf KS us[i].name (atF ep us[i].vs)]) := ⟨by rw [TK.out, LFO.out, if_neg hem]⟩
        have D6 := Aside0.mk (DG.out _ W6 q6 HV6.out)
        have hvl := vdigF_len KS (atF ep us[i].vs)
        have hpl := pathF_len KS us[i].name
        have ME : Aside0 ((mkLf KS us[i].name (atF ep us[i].vs)).enc = u8s (pathF KS us[i].name ++ vdigF KS (atF ep us[i].vs))) := ⟨mkLf_enc _ _ _⟩
        generalize mkLf KS us[i].name (atF ep us[i].vs) = nl at *
        generalize vdigF KS (atF ep us[i].vs) = vd at *
        generalize pathF KS us[i].name = pf at *
        generalize (atF ep us[i].vs).length = an at *
        clear hem LFO DG TK HV6
        have hi31v := info31l vd hvl
        have hi31a := info31 vd hvl
        have hzv := zD_size vd hvl
        have h1v := dig_one vd
        go_upto_region 8 with (first | (go_at_call 37; refine D6.out.mono ?_; rintro en W7 ⟨rfl, hb7⟩) | (refine wpList_allocW rfl 31 rfl zD zero31 ?_; intro W8 b8 s8 k8) | (refine wpList_store_row rfl 31 (.tmp 9) (.tmp 31) rfl W7.heap.size _ rfl rfl 31 _ k8 hi31a hzv h1v ?_))
        have b9 : Below W7.heap.size W7 (W8.setRow W7.heap.size (u8s vd).toArray) := below_setRow b8 _ (Nat.le_refl _) _
        have k9 := setRow_heap W8 W7.heap.size _ (u8s vd).toArray 31 (0, 0) k8
        generalize W8.setRow W7.heap.size (u8s vd).toArray = W9 at b9 k9 ⊢
        have hs7 := hb7.size
        have hs9 := b9.size
        have rd : W9.rangeAt W7.heap.size 0 (u8s vd) := block_range k9
        have hdbl : W7.heap.size < W9.heap.size := (Array.getElem?_eq_some_iff.1 k9).1
        generalize W7.heap.size = db at *
        have q69 : Below W6.heap.size W6 W9 := hb7.trans (b9.mono hs7)
        have q9 : Below w.heap.size w W9 := q6.trans (q69.mono (by omega))
        have nm : W9.cell? ⟨ro, 0, none⟩ = some (.string us[i].name) := cell_in (l := [.string us[i].name, .slice va un vc]) ((q69.block ro (by omega)).trans kx6) rfl
        have ho9 := own_move (w1 := W9) LL.out.row fun k e => (((BR6.out.trans (q69.mono (by rw [← HRO.out]; omega))).block k (LL.out.row.lt k e).2))
        have O9 := Aside0.mk (OF.out W9.drew q9.drew)
        have BL := built_lf pf vd hpl hvl
        have BS := fill89 (u8s (pf ++ vd)) (by simp [hpl, hvl])
        have hz89 : z89.toArray.size = 64 := rfl
        have HO9 := Aside0.mk ho9
        have hnl64 : (u8s (pf ++ vd)).length = 64 := by simp [hpl, hvl]
        have hn1 := u8s_one (pf ++ vd)
        have hwt : W9.heap.size = W9.heap.size := rfl
        have HQ := Aside0.mk (And.intro q9 (And.intro hdbl (And.intro hs9 (And.intro hs7 (And.intro hs6 sx)))))
        have hro9 : ro < W9.heap.size := by omega
        have hwl9 : w.heap.size ≤ W9.heap.size := q9.size
        clear k8 b8 k9 hs9 hs7 hb7 q6 kx6 br6 D6 OF ho9 hs6 hs5 sx q69
        go_upto_region 8 with fail
        refine wp_region_held_drew (S := (fun W => W.cell? ⟨ro, 0, none⟩ = some (.string us[i].name) ∧ W.rangeAt db 0 (u8s vd))) (by kernel_rfl) (by exact ⟨nm, rd⟩) (fun hHeld => ?_)
        refine wpAnyH_take (i := 0) (oi := _) (v := ?_) rfl (by kernel_rfl) (by kernel_rfl) (by kernel_rfl) (fun _ _ _ h => h) (Or.inl ⟨by rfl, ?_⟩) (by assumption) ?_
        rotate_left
        · (intro w hSw; (try dsimp only at hSw); have s1_ := hSw.1; have s2_ := hSw.2; clear hSw; go_simp; (try with_reducible rfl))
        (try simp only [uA, uB, uC, uD, uE, uF, uG, uH])
        refine wpAnyH_take (i := 1) (oi := _) (v := ?_) rfl (by kernel_rfl) (by kernel_rfl) (by kernel_rfl) (fun _ _ _ h => h) (Or.inl ⟨by rfl, ?_⟩) (by assumption) ?_
        rotate_left
        · (intro w hSw; (try dsimp only at hSw); have s1_ := hSw.1; have s2_ := hSw.2; clear hSw; go_simp; (try with_reducible rfl))
        (try simp only [uA, uB, uC, uD, uE, uF, uG, uH])
        refine wpAnyH_take (i := 2) (oi := _) (v := ?_) rfl (by kernel_rfl) (by kernel_rfl) (by kernel_rfl) (fun _ _ _ h => h) (Or.inl ⟨by rfl, ?_⟩) (by assumption) ?_
        rotate_left
        · (intro w hSw; (try dsimp only at hSw); have s1_ := hSw.1; have s2_ := hSw.2; clear hSw; go_simp; (try with_reducible rfl))
        (try simp only [uA, uB, uC, uD, uE, uF, uG, uH])
        refine wpAnyH_take (i := 4) (oi := _) (v := _) rfl (by kernel_rfl) (by kernel_rfl) (by kernel_rfl) (fun _ _ _ h => h) (yieldsIf_load_mid (by rfl) 31 (.tmp 9) rfl db 0 rfl _ _ (fun W hW => hW.2) Tryz.underlying31 rfl hi31v) (by assumption) ?_
        (try simp only [uA, uB, uC, uD, uE, uF, uG, uH])
        refine wpAnyH_ready (rs := [3]) (by kernel_rfl) (by decide) (AllReadyH.cons rfl (fun K' hK => ?_) AllReadyH.nil)
        rw [if_pos (by rfl)]
        go_simp
        refine (O9.out).mono ?_
        rintro en W10 ⟨rfl, hb10⟩
        (try dsimp only)
        have hs10 : W9.heap.size ≤ W10.heap.size := hb10.size
        have nm10 : W10.cell? ⟨ro, 0, none⟩ = some (.string us[i].name) := (World.cell?_of_block (w := W9) (hb10.block ro hro9)).trans nm
        have rd10 : W10.rangeAt db 0 (u8s vd) := range_same rd (hb10.block db HQ.out.2.1)
        have ho10 := own_move (w1 := W10) HO9.out fun k e => hb10.block k (HO9.out.lt k e).2
        have q10 : Below w.heap.size w W10 := q9.drew.trans (hb10.mono hwl9)
        refine hK.out _ _ (by exact ⟨nm10, rd10⟩) (fun hHeld => ?_)
        clear hK
        (try simp only [uA, uB, uC, uD, uE, uF, uG, uH])
        refine wpAnyH_ready (rs := [5]) (by kernel_rfl) (by decide) (AllReadyH.cons rfl (fun K' hK => ?_) AllReadyH.nil)
        rw [if_pos (by rfl)]
        refine wp_build2 89 _ rfl [(0, .agg (u8s pf).toArray), (1, .agg (u8s vd).toArray)] (by simp only [List.map_toArray, List.map_cons, List.map_nil, List.toList_toArray]; rfl) _ BL ?_
        refine hK.out _ _ (by exact ⟨nm10, rd10⟩) (fun hHeld => ?_)
        clear hK
        (try simp only [uA, uB, uC, uD, uE, uF, uG, uH])
        refine wpAnyH_ready (rs := [6]) (by kernel_rfl) (by decide) (AllReadyH.cons rfl (fun K' hK => ?_) AllReadyH.nil)
        rw [if_pos (by rfl)]
        obtain ⟨i89, j1, j2, j3, j4⟩ := info_of infoLf
        refine Go.wp_buildSlice 55 89 1 _ rfl (u8s (pf ++ vd)).toArray i89 _ Tryz.underlying55 j1 j2 (by rw [j3]; decide) (by rw [j3]; decide) (by rw [j3]; simp only [List.map_toArray, List.map_cons, List.map_nil, List.toList_toArray]; exact BS) ?_
        have b11 : Below W10.heap.size W10 (W10.alloc (.cells (u8s (pf ++ vd)).toArray 89)) := (Below.refl _ _).alloc (Nat.le_refl _) _
        have k11 := blk_new W10 (.cells (u8s (pf ++ vd)).toArray 89)
        have s11 : (W10.alloc (.cells (u8s (pf ++ vd)).toArray 89)).heap.size = W10.heap.size + 1 := by simp
        generalize W10.alloc (.cells (u8s (pf ++ vd)).toArray 89) = W11 at *
        have nm11 : W11.cell? ⟨ro, 0, none⟩ = some (.string us[i].name) := (World.cell?_of_block (w := W10) (b11.block ro (by omega))).trans nm10
        have hdb9 : db < W9.heap.size := HQ.out.2.1
        have rd11 : W11.rangeAt db 0 (u8s vd) := range_same rd10 (b11.block db (by omega))
        have ho11 := own_move (w1 := W11) ho10 fun k e => b11.block k (ho10.lt k e).2
        have q11 : Below w.heap.size w W11 := q10.trans (b11.mono (by omega))
        have n11 : ∀ j u, (u8s (pf ++ vd))[j]? = some u → W11.cell? ((⟨W10.heap.size, 0, none⟩ : Addr).add j) = some u := fun j u hj => by
          rw [Addr.add_lit, Nat.zero_add]
          exact cell_in (l := u8s (pf ++ vd)) k11 hj
        refine hK.out _ _ (by exact ⟨nm11, rd11⟩) (fun hHeld => ?_)
        clear hK
        (try simp only [uA, uB, uC, uD, uE, uF, uG, uH])
        refine wpAnyH_ready (rs := [7]) (by kernel_rfl) (by decide) (AllReadyH.cons rfl (fun K' hK => ?_) AllReadyH.nil)
        rw [if_pos (by rfl)]
        refine wp_append_own W11 (.tmp 33) (.tmp 39) 55 rfl w.heap.size 89 i89 _ 64 64 Tryz.underlying55 j1 j2 j3 j4 rfl (by decide) _ (leavesF KS ep (us.take i)).length (lfC (leavesF KS ep (us.take i))) rfl ho11 ⟨W10.heap.size, 0, none⟩ 1 1 (u8s (pf ++ vd)) rfl (by rw [hnl64]) n11 hn1 (by simp only [maxLen]; omega) (by omega) (by omega) ?_
        intro v12 W12 ho12 hg12 _
        (try dsimp only)
        have q12 : Below w.heap.size w W12 := q11.grown hg12 (by omega) fun k e => (ho11.lt k e).1
        have rl12 : ∀ k, k < W11.heap.size → some k ≠ u5.ownBlock → W12.heap[k]? = W11.heap[k]? := fun k hk hn => hg12.block k hk hn
        have hne5 : ∀ k, u5.ownBlock = some k → k < wr.heap.size := fun k e => (LL.out.row.lt k e).2
        have nr : some ro ≠ u5.ownBlock := fun e => by have := hne5 ro e.symm; rw [← HRO.out] at this; omega
        have nd : some db ≠ u5.ownBlock := fun e => by have := hne5 db e.symm; rw [← HRO.out] at this; have := HQ.out.2.2.2.2.1; have := HQ.out.2.2.2.1; have := HQ.out.2.2.2.2.2; omega
        have nm12 : W12.cell? ⟨ro, 0, none⟩ = some (.string us[i].name) := (World.cell?_of_block (w := W11) (rl12 ro (by omega) nr)).trans nm11
        have rd12 : W12.rangeAt db 0 (u8s vd) := range_same rd11 (rl12 db (by omega) nd)
        have LN2 : Aside0 (W12.ownsRow w.heap.size 89 64 v12 (leavesF KS ep (us.take (i + 1))).length (lfC (leavesF KS ep (us.take (i + 1))))) := ⟨by
          rw [LN.out, List.length_append, lfC_append, show lfC [nl] = u8s (pf ++ vd) by rw [lfC, lfC, List.append_nil, ME.out]]
          exact ho12⟩
        refine hK.out _ _ (by exact ⟨nm12, rd12⟩) (fun hHeld => ?_)
        clear hK
        (try simp only [uA, uB, uC, uD, uE, uF, uG, uH])
        refine wpAnyH_take (i := 8) (oi := _) (v := ?_) rfl (by kernel_rfl) (by kernel_rfl) (by kernel_rfl) (fun _ _ _ h => h) (Or.inl ⟨by rfl, ?_⟩) (by assumption) ?_
        rotate_left
        · (intro w hSw; (try dsimp only at hSw); have s1_ := hSw.1; have s2_ := hSw.2; clear hSw; go_simp; (try with_reducible rfl))
        (try simp only [uA, uB, uC, uD, uE, uF, uG, uH])
        refine wpAnyH_done (by kernel_rfl) ?_ _
        have Q12 := Aside0.mk q12
        clear ho12 hg12 rl12 ho11 ho10 HO9 nm rd nm10 rd10 nm11 rd11 nm12 rd12 q12 q11 q10 q9 b11 k11 n11
        go_wp2_with fail
        go_roundg (us.length - (i + 1))
        case measure => omega
        case rel => exact ⟨i + 1, Nat.le_refl _, ⟨by simp, by omega, LN2.out, Q12.out⟩⟩
    · obtain rfl : i = us.length := by omega
      have hnl : ¬ (us.length : Int) < (us.length : Int) := by omega
      have ho := LL.out.row
      have hb := LL.out.below
      rw [List.take_length] at ho
      have HO := Aside0.mk ho
      clear LL ho
      go_wp2
      go_ret
      exact ⟨_, rfl, HO.out, hb⟩
end Go.Proofs.YtadkeohohehmcaaGreatDoor.Top
end
section
/- An epoch's root. -/
namespace Go.Proofs.YtadkeohohehmcaaGreatDoor.Top
open Go.RowKit Go.Proofs.YtadkeohohehmcaaGreatDoorW.PrintWords Go.Proofs.YtadkeohohehmcaaGreatDoorW.PrintLast Go.Proofs.YtadkeohohehmcaaGreatDoorW.PrintMore Go.Proofs.YtadkeohohehmcaaGreatDoor.PTop
set_option linter.unusedVariables false
set_option linter.unusedSimpArgs false
attribute [local go_sem] Oper.semAt_some
theorem UsAt.below {w w' : World} {wb : Nat} {us : List Usr} (h : UsAt w wb us) (hb : Below w.heap.size w w') : UsAt w' wb us := by
  obtain ⟨x0, x1, x2, x3, uc, h1, h2, h3⟩ := h.at_
  exact ⟨⟨x0, x1, x2, x3, uc, (hb.block wb (Array.getElem?_eq_some_iff.1 h1).1).trans h1, Reads.below h2 hb, UsR.below hb h3⟩⟩
def rootE (KS : List Int) (ep : Int) (us : List Usr) : List Int := rootF KS (leavesF KS ep us)
theorem rootE_len (KS : List Int) (ep : Int) (us : List Usr) : (rootE KS ep us).length = 32 := rootF_len _ _
set_option maxHeartbeats 2000000 in
set_option maxRecDepth 100000 in
theorem root_c (KS : List Int) (us : List Usr) (ep : Int) (wb : Nat) (w : World) (hk : HKey KS w) (hu : UsAt w wb us) (hok : ∀ u ∈ us, UsOk u) (hm : us.length ≤ 1000) :
    Calls Tryz.prog 11 #[.pointer (some ⟨wb, 0, none⟩), .int .i64 ep] w fun e w' => e = .returned (dv (rootE KS ep us)) ∧ Below w.heap.size w w' := by
  have hw0 := hk.pos
  have hd := rootE_len KS ep us
  have LC : Aside0 (∀ W, Below w.heap.size w W → Calls Tryz.prog 20 #[.pointer (some ⟨wb, 0, none⟩), .int .i64 ep] W fun e w' => LvPost (leavesF KS ep us) W e w') := ⟨fun W hW => leaves_c KS us ep wb W (hk.below hW hw0) (hu.below hW) hok hm⟩
  have hll := leavesF_len KS ep us
  have RC : Aside0 (∀ (v : Value) W, Below w.heap.size w W → Reads W 64 v (leavesF KS ep us).length (lfC (leavesF KS ep us)) → Calls Tryz.prog 19 #[.int .i64 32, v] W fun e w' => RootPost (rootE KS ep us) W e w') := ⟨fun v W hW hr => smtroot_c KS v _ W (hk.below hW hw0) hr (by omega)⟩
  generalize rootE KS ep us = d at *
  generalize leavesF KS ep us = ll at *
  clear hk hu hok
  have hi31 := info31 d hd
  have hz := zD_size d hd
  have h1d := dig_one d
  go_enter Tryz.func11, Tryz.ntmps11
  go_upto_region 1 with (refine wpList_allocW rfl 31 rfl zD zero31 ?_; intro W1 b1 s1 k1)
  have L1 := Aside0.mk (LC.out W1 b1)
  clear LC
  go_upto_region 2 with (first | (go_at_call 20; refine L1.out.mono ?_; rintro e W2 ⟨v2, rfl, ho2, hb2⟩; refine Aside0.out ?_))
  refine ⟨?_⟩
  have hs1 := b1.size
  have q2 : Below w.heap.size w W2 := b1.trans (hb2.mono hs1)
  have k2 := (hb2.block w.heap.size (by omega)).trans k1
  have R2 := Aside0.mk (RC.out v2 W2 q2 (Reads.of_own ho2))
  have hs2 := hb2.size
  clear RC L1 k1 ho2
  go_upto_region 2 with (first | (go_at_call 19; refine R2.out.mono ?_; rintro e W3 ⟨⟨er, rfl⟩, hb3⟩; refine Aside0.out ?_))
  refine ⟨?_⟩
  have k3 := (hb3.block w.heap.size (by omega)).trans k2
  have q3 : Below w.heap.size w W3 := q2.trans (hb3.mono (by omega))
  have hs3 := hb3.size
  go_upto_region 2 with (first | (refine wpList_allocW rfl 31 rfl zD zero31 ?_; intro W4 b4 s4 k4) | (refine wpList_store_row rfl 31 (.tmp 5) (.tmp 12) rfl W3.heap.size _ rfl rfl 31 _ k4 hi31 hz h1d ?_))
  have k5 := setRow_heap W4 W3.heap.size _ (d.map (Value.int .u8)).toArray 31 (0, 0) k4
  have k6 := (setRow_other W4 W3.heap.size w.heap.size (d.map (Value.int .u8)).toArray (by omega)).trans ((b4.block _ (by omega)).trans k3)
  have q5 : Below w.heap.size w (W4.setRow W3.heap.size (d.map (Value.int .u8)).toArray) := below_setRow (q3.trans (b4.mono (by omega))) _ (by omega) _
  generalize W4.setRow W3.heap.size (d.map (Value.int .u8)).toArray = W5 at k5 k6 q5 ⊢
  go_wp2_with (first | (refine wpList_load_row rfl 31 (.tmp 5) rfl W3.heap.size rfl 31 _ (0, 0) _ k5 Tryz.underlying31 rfl hi31 ?_) | (refine wpList_store_row rfl 31 (.tmp 4) (.tmp 14) rfl w.heap.size _ rfl rfl 31 _ k6 hi31 hz h1d ?_))
  have hgf := setRow_heap W5 w.heap.size _ (d.map (Value.int .u8)).toArray 31 (0, 0) k6
  refine bodyPost_ret (results_cell_row rfl _ _ w.heap.size 31 _ (0, 0) _ rfl hgf Tryz.underlying31 rfl hi31) rfl ?_
  exact ⟨rfl, below_setRow q5 _ (Nat.le_refl _) _⟩
end Go.Proofs.YtadkeohohehmcaaGreatDoor.Top
end
section
/- A directory in form: what it is. -/
namespace Go.Proofs.YtadkeohohehmcaaGreatDoor.Top
open Go.RowKit Go.Proofs.YtadkeohohehmcaaGreatDoorW.PrintWords Go.Proofs.YtadkeohohehmcaaGreatDoorW.PrintLast Go.Proofs.YtadkeohohehmcaaGreatDoorW.PrintMore Go.Proofs.YtadkeohohehmcaaGreatDoor.PTop
set_option linter.unusedVariables false
set_option linter.unusedSimpArgs false
attribute [local go_sem] Oper.semAt_some

theorem within_c (a lo hi : Int) (h1 : lo ≤ a) (h2 : a ≤ hi) (w : World) : Calls Tryz.prog 18 #[.int .i64 a, .int .i64 lo, .int .i64 hi] w fun e w' => e = .returned (.bool true) ∧ Drawn0 w w' :=
  directory_within.calls a lo hi true w (by unfold directory_within.f; rw [if_pos h1, decide_eq_true h2])
theorem name_c (s : ByteArray) (h1 : 1 ≤ s.size) (h2 : s.size ≤ 32) (w : World) : Calls Tryz.prog 23 #[.string s] w fun e w' => e = .returned (.bool true) ∧ Drawn0 w w' :=
  directory_name.calls s true w (by unfold directory_name.f directory_within.f; rw [if_pos (by omega), decide_eq_true (by omega)]; rfl)
/-- One string stands behind another. -/
def SGt (a b : ByteArray) : Bool := !(Op.bytesLess a.toList b.toList || a.toList == b.toList)
theorem run_sgt (a b : ByteArray) (h : SGt a b = true) (w : World) : (binOp .gtr 9 (.string a) (.string b)).run Tryz.prog w = .ok (.bool true) w := by
  have e : binOp .gtr 9 (.string a) (.string b) = pure (.bool (SGt a b)) := by simp [binOp, Op.stringOp, SGt]
  rw [e, h]
  rfl
/-- The last one's name. -/
def wasF (us : List Usr) : ByteArray := (us.getLast?.map Usr.name).getD ⟨#[]⟩
theorem wasF_take (us : List Usr) (i : Nat) (u : Usr) (h : us[i]? = some u) : wasF (us.take (i + 1)) = u.name := by
  unfold wasF
  have e : us.take (i + 1) = us.take i ++ [u] := by rw [List.take_add_one, h]; rfl
  rw [e, List.getLast?_concat]
  rfl
structure UsIn (e : Int) (us : List Usr) : Prop where
  len : us.length ≤ 64
  at_ : ∀ (i : Nat) u, us[i]? = some u → SGt u.name (wasF (us.take i)) = true ∧ 1 ≤ u.name.size ∧ u.name.size ≤ 32 ∧ u.vs ≠ [] ∧ CheckOk u.vs ∧ (lastF u.vs).f0 ≤ e + 1
structure HsIn (KS : List Int) (e : Int) (hs : List Hd) : Prop where
  len : (hs.length : Int) ≤ e
  at_ : ∀ (i : Nat) h, hs[i]? = some h → h.e = (i : Int) + 1 ∧ HdOk h ∧ PathOk h.prev ∧ h.prev = prevF KS (hs.take i)
def lastC (ss : List Ses) : Int := (ss.getLast?.map Ses.c).getD 0
theorem lastC_take (ss : List Ses) (i : Nat) (s : Ses) (h : ss[i]? = some s) : lastC (ss.take (i + 1)) = s.c := by
  unfold lastC
  have e : ss.take (i + 1) = ss.take i ++ [s] := by rw [List.take_add_one, h]; rfl
  rw [e, List.getLast?_concat]
  rfl
structure SsIn (e : Int) (ss : List Ses) : Prop where
  len : ss.length ≤ 4
  at_ : ∀ (i : Nat) s, ss[i]? = some s → lastC (ss.take i) < s.c ∧ s.c ≤ 4 ∧ 1 ≤ s.s ∧ s.s ≤ 1000000 ∧ 0 ≤ s.code ∧ s.code ≤ 65535 ∧ 0 ≤ s.e ∧ s.e ≤ e
/-- A directory in form. -/
structure DirIn (KS : List Int) (d : Dir) : Prop where
  lo : 0 ≤ d.e
  hi : d.e ≤ 200
  us : UsIn d.e d.us
  hs : HsIn KS d.e d.hs
  ss : SsIn d.e d.ss
theorem z71 : (Tryz.prog.info? 71).map (·.zero) = some (some (.agg #[.int .i64 0, .int .i64 0, .int .i64 0, .int .i64 0])) := by kernel_rfl
theorem zero36 : (Tryz.prog.info? 36).map (·.zero) = some (some (.agg z36.toArray)) := by kernel_rfl
theorem hsC_take : ∀ (hs : List Hd), (∀ h ∈ hs, HdOk h) → ∀ m : Nat, (hsC hs).take (m * 65) = hsC (hs.take m)
  | [], _, m => by simp [hsC]
  | x :: r, h, 0 => by simp [hsC]
  | x :: r, h, m + 1 => by
    have e : (m + 1) * 65 = (hdcells x).length + m * 65 := by rw [hdcells_len x (h x List.mem_cons_self)]; omega
    rw [hsC, List.take_succ_cons, hsC, e, List.take_length_add_append, hsC_take r (fun y hy => h y (List.mem_cons_of_mem _ hy)) m]
theorem ssC_len : ∀ l : List Ses, (ssC l).length = l.length * 4
  | [] => rfl
  | x :: r => by rw [ssC, List.length_append, ssC_len r, List.length_cons]; simp [scells]; omega
theorem ssC_at : ∀ (l : List Ses) (i : Nat) (x : Ses), l[i]? = some x → ∀ j u, (scells x)[j]? = some u → (ssC l)[i * 4 + j]? = some u
  | [], i, x, h => by simp at h
  | y :: r, 0, x, h => fun j u hj => by
    obtain rfl : y = x := by simpa using h
    rw [ssC, Nat.zero_mul, Nat.zero_add, List.getElem?_append_left (List.getElem?_eq_some_iff.1 hj).1]
    exact hj
  | y :: r, i + 1, x, h => fun j u hj => by
    have l : (scells y).length = 4 := rfl
    rw [ssC, show (i + 1) * 4 + j = (scells y).length + (i * 4 + j) by omega, List.getElem?_append_right (by omega), Nat.add_sub_cancel_left]
    exact ssC_at r i x (by simpa using h) j u hj
/-- A directory's cells, to be read. -/
structure DirR (w : World) (d : Dir) (x1 x2 x3 : Value) : Prop where
  us : ∃ uc, Reads w 2 x1 d.us.length uc ∧ UsR w d.us uc
  hs : Reads w 65 x2 d.hs.length (hsC d.hs)
  ss : Reads w 4 x3 d.ss.length (ssC d.ss)
theorem DirR.of {w : World} {base : Nat} {d : Dir} {x1 x2 x3 : Value} (h : DirC w base d x1 x2 x3) : DirR w d x1 x2 x3 := by
  obtain ⟨⟨uc, h1, h2⟩, h3, h4⟩ := h
  exact ⟨⟨uc, Reads.of_own h1, UsR.of h2⟩, Reads.of_own h3, Reads.of_own h4⟩
theorem DirR.below {w w' : World} {d : Dir} {x1 x2 x3 : Value} (h : DirR w d x1 x2 x3) (hb : Below w.heap.size w w') : DirR w' d x1 x2 x3 := by
  obtain ⟨⟨uc, h1, h2⟩, h3, h4⟩ := h
  exact ⟨⟨uc, Reads.below h1 hb, UsR.below hb h2⟩, Reads.below h3 hb, Reads.below h4 hb⟩
def dirV (d : Dir) (x1 x2 x3 : Value) : Value := .agg #[.int .i64 d.e, x1, x2, x3]
end Go.Proofs.YtadkeohohehmcaaGreatDoor.Top
end
