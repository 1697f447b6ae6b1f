/- Several texts in one. -/
import Derived.Test.YtadkeohohehmcaaGreatDoorLeC
import Derived.Test.YtadkeohohehmcaaGreatDoorDiA
section
/- A directory in memory of its own. -/
namespace Go.Proofs.YtadkeohohehmcaaGreatDoor.Top
open Go.RowKit Go.Proofs.YtadkeohohehmcaaGreatDoorW.PrintWords Go.Proofs.YtadkeohohehmcaaGreatDoorW.PrintLast Go.Proofs.YtadkeohohehmcaaGreatDoorW.PrintMore Go.Proofs.YtadkeohohehmcaaGreatDoor.PTop
set_option linter.unusedVariables false
set_option linter.unusedSimpArgs false
attribute [local go_sem] Oper.semAt_some
/-- A directory that is changed: its block, its rows from n0 on. -/
def Wk (w : World) (wb n0 : Nat) (d : Dir) : Prop := n0 ≤ wb ∧ ∃ x1 x2 x3, w.heap[wb]? = some (.cells #[.int .i64 d.e, x1, x2, x3] 47 (0, 0)) ∧ DirC w n0 d x1 x2 x3
theorem UsC.move {w w' : World} {base : Nat} (h : ∀ k cur, base ≤ k → w.heap[k]? = some (.cells cur 68 (0, 0)) → w'.heap[k]? = w.heap[k]?) : ∀ {us : List Usr} {cs : List Value}, UsC w base us cs → UsC w' base us cs
  | [], cs, hc => hc
  | u :: us, cs, ⟨v, r, h1, h2, h3⟩ => ⟨v, r, h1, own_move h2 fun k e => by
      obtain ⟨cur, hcur⟩ := own_typed h2 k e
      exact h k cur (h2.lt k e).1 hcur, UsC.move h h3⟩
theorem UsC.lower {w : World} {base base' : Nat} (hb : base' ≤ base) : ∀ {us : List Usr} {cs : List Value}, UsC w base us cs → UsC w base' us cs
  | [], cs, hc => hc
  | u :: us, cs, ⟨v, r, h1, h2, h3⟩ => ⟨v, r, h1, own_weaken h2 hb, UsC.lower hb h3⟩
/-- Users' cells whose first i rows are own, the others read. -/
def UsM (w0 w : World) (base : Nat) : Nat → List Usr → List Value → Prop
  | _, [], cs => cs = []
  | 0, u :: us, cs => ∃ v r, cs = .string u.name :: v :: r ∧ Vs w0 v u.vs ∧ UsM w0 w base 0 us r
  | i + 1, u :: us, cs => ∃ v r, cs = .string u.name :: v :: r ∧ w.ownsRow base 68 3 v u.vs.length (vsC u.vs) ∧ UsM w0 w base i us r
theorem UsM.of_read {w0 w : World} {base : Nat} : ∀ {us : List Usr} {cs : List Value}, UsR w0 us cs → UsM w0 w base 0 us cs
  | [], cs, h => h
  | u :: us, cs, ⟨v, r, h1, h2, h3⟩ => ⟨v, r, h1, h2, UsM.of_read h3⟩
theorem UsM.all {w0 w : World} {base : Nat} : ∀ {us : List Usr} {i : Nat} {cs : List Value}, us.length ≤ i → UsM w0 w base i us cs → UsC w base us cs
  | [], i, cs, _, h => by cases i <;> exact h
  | u :: us, 0, cs, hl, h => by simp at hl
  | u :: us, i + 1, cs, hl, ⟨v, r, h1, h2, h3⟩ => ⟨v, r, h1, h2, UsM.all (by simpa using hl) h3⟩
theorem UsM.len {w0 w : World} {base : Nat} : ∀ {us : List Usr} {i : Nat} {cs : List Value}, UsM w0 w base i us cs → cs.length = us.length * 2
  | [], i, cs, h => by cases i <;> (rw [UsM] at h; rw [h]; rfl)
  | u :: us, 0, cs, ⟨v, r, h1, h2, h3⟩ => by rw [h1, List.length_cons, List.length_cons, UsM.len h3, List.length_cons]; omega
  | u :: us, i + 1, cs, ⟨v, r, h1, h2, h3⟩ => by rw [h1, List.length_cons, List.length_cons, UsM.len h3, List.length_cons]; omega
theorem UsM.move {w0 w w' : World} {base : Nat} (h : ∀ k cur, base ≤ k → w.heap[k]? = some (.cells cur 68 (0, 0)) → w'.heap[k]? = w.heap[k]?) : ∀ {us : List Usr} {i : Nat} {cs : List Value}, UsM w0 w base i us cs → UsM w0 w' base i us cs
  | [], i, cs, h => by cases i <;> exact h
  | u :: us, 0, cs, ⟨v, r, h1, h2, h3⟩ => ⟨v, r, h1, h2, UsM.move h h3⟩
  | u :: us, i + 1, cs, ⟨v, r, h1, h2, h3⟩ => ⟨v, r, h1, own_move h2 (fun k e => by
      obtain ⟨cur, hcur⟩ := own_typed h2 k e
      exact h k cur (h2.lt k e).1 hcur), UsM.move h h3⟩
/-- The next row becomes own. -/
theorem UsM.set {w0 w : World} {base : Nat} {v' : Value} : ∀ {us : List Usr} {i : Nat} {cs : List Value} (u : Usr), us[i]? = some u → UsM w0 w base i us cs → w.ownsRow base 68 3 v' u.vs.length (vsC u.vs) → UsM w0 w base (i + 1) us (cs.set (i * 2 + 1) v')
  | [], i, cs, u, hu, _, _ => by simp at hu
  | y :: us, 0, cs, u, hu, ⟨v, r, h1, h2, h3⟩, ho => by
    obtain rfl : y = u := by simpa using hu
    subst h1
    exact ⟨v', r, rfl, ho, h3⟩
  | y :: us, i + 1, cs, u, hu, ⟨v, r, h1, h2, h3⟩, ho => by
    subst h1
    have := UsM.set (v' := v') u (by simpa using hu) h3 ho
    exact ⟨v, r.set (i * 2 + 1) v', by rw [show (i + 1) * 2 + 1 = i * 2 + 1 + 1 + 1 by omega]; rfl, h2, this⟩
theorem UsM.at_ {w0 w : World} {base : Nat} : ∀ {us : List Usr} {i : Nat} {cs : List Value}, UsM w0 w base i us cs → ∀ (u : Usr), us[i]? = some u → ∃ v, cs[i * 2]? = some (.string u.name) ∧ cs[i * 2 + 1]? = some v ∧ Vs w0 v u.vs
  | [], i, cs, h, u, hu => by simp at hu
  | y :: us, 0, cs, ⟨v, r, h1, h2, h3⟩, u, hu => by
    obtain rfl : y = u := by simpa using hu
    subst h1
    exact ⟨v, rfl, rfl, h2⟩
  | y :: us, i + 1, cs, ⟨v, r, h1, h2, h3⟩, u, hu => by
    obtain ⟨v2, a, b, c⟩ := UsM.at_ h3 u (by simpa using hu)
    subst h1
    refine ⟨v2, ?_, ?_, c⟩
    · rw [show (i + 1) * 2 = i * 2 + 1 + 1 by omega, List.getElem?_cons_succ, List.getElem?_cons_succ]; exact a
    · rw [show (i + 1) * 2 + 1 = i * 2 + 1 + 1 + 1 by omega, List.getElem?_cons_succ, List.getElem?_cons_succ]; exact b
end Go.Proofs.YtadkeohohehmcaaGreatDoor.Top
end
section
/- A directory in memory of its own: begin. -/
namespace Go.Proofs.YtadkeohohehmcaaGreatDoor.Top
open Go.RowKit Go.Proofs.YtadkeohohehmcaaGreatDoorW.PrintWords Go.Proofs.YtadkeohohehmcaaGreatDoorW.PrintLast Go.Proofs.YtadkeohohehmcaaGreatDoorW.PrintMore Go.Proofs.YtadkeohohehmcaaGreatDoor.PTop
set_option linter.unusedVariables false
set_option linter.unusedSimpArgs false
attribute [local go_sem] Oper.semAt_some
theorem usR_len {w : World} : ∀ {us : List Usr} {cs : List Value}, UsR w us cs → cs.length = us.length * 2
  | [], cs, h => by rw [UsR] at h; rw [h]; rfl
  | u :: us, cs, ⟨v, r, h1, h2, h3⟩ => by rw [h1, List.length_cons, List.length_cons, usR_len h3, List.length_cons]; omega
theorem usR_one {w : World} : ∀ {us : List Usr} {cs : List Value}, UsR w us cs → ∀ u ∈ cs, u.oneCell' = true
  | [], cs, h, u, hu => by rw [UsR] at h; rw [h] at hu; cases hu
  | y :: us, cs, ⟨v, r, h1, h2, h3⟩, u, hu => by
    obtain ⟨A, c, rfl, _⟩ := Reads.form h2
    rw [h1, List.mem_cons, List.mem_cons] at hu
    rcases hu with rfl | rfl | hu
    · rfl
    · rfl
    · exact usR_one h3 u hu
theorem hsC_one : ∀ hs : List Hd, ∀ u ∈ hsC hs, u.oneCell' = true
  | [], u, h => by cases h
  | x :: r, u, h => by
    rw [hsC, List.mem_append] at h
    rcases h with h | h
    · unfold hdcells at h
      rw [List.mem_cons, List.mem_map] at h
      rcases h with rfl | ⟨a, _, rfl⟩ <;> rfl
    · exact hsC_one r u h
theorem ssC_one : ∀ ss : List Ses, ∀ u ∈ ssC ss, u.oneCell' = true
  | [], u, h => by cases h
  | x :: r, u, h => by
    rw [ssC, List.mem_append] at h
    rcases h with h | h
    · simp [scells] at h
      rcases h with rfl | rfl | rfl | rfl <;> rfl
    · exact ssC_one r u h
theorem DirC.below {w w' : World} {base : Nat} {d : Dir} {x1 x2 x3 : Value} (h : DirC w base d x1 x2 x3) (hb : Below w.heap.size w w') : DirC w' base d x1 x2 x3 := by
  obtain ⟨⟨uc, h1, h2⟩, h3, h4⟩ := h
  exact ⟨⟨uc, own_move h1 fun k e => hb.block k (h1.lt k e).2, UsC.move (w := w) (fun k cur _ hc => hb.block k (Array.getElem?_eq_some_iff.1 hc).1) h2⟩, own_move h3 fun k e => hb.block k (h3.lt k e).2, own_move h4 fun k e => hb.block k (h4.lt k e).2⟩
def BegPost (d : Dir) (w : World) (e : Ending) (w' : World) : Prop := ∃ wb, e = .returned (.pointer (some ⟨wb, 0, none⟩)) ∧ Wk w' wb w.heap.size d ∧ Below w.heap.size w w'
structure BegL (us : List Usr) (w wr : World) (e0 x2 x3 v1 : Value) (s12 : Value) (i : Nat) : Prop where
  ix : s12 = .int .i64 (i : Int)
  le : i ≤ us.length
  box : wr.heap[w.heap.size]? = some (.cells #[e0, v1, x2, x3] 28 (0, 0))
  row : ∃ uc, wr.ownsRow w.heap.size 63 2 v1 us.length uc ∧ UsM w wr w.heap.size i us uc
  below : Below w.heap.size w wr
set_option maxHeartbeats 8000000 in
set_option maxRecDepth 100000 in
theorem begin_c (d : Dir) (x1 x2 x3 : Value) (w : World) (hr : DirR w d x1 x2 x3) (h1 : d.us.length ≤ 1000) (h2 : d.hs.length ≤ 1000) (h3 : d.ss.length ≤ 1000) (h4 : ∀ u ∈ d.us, u.vs.length ≤ 1000000) :
    Calls Tryz.prog 15 #[dirV d x1 x2 x3] w fun e w' => BegPost d w e w' := by
  obtain ⟨de, us, hs, ss⟩ := d
  obtain ⟨⟨uc, ur, uus⟩, hrr, srr⟩ := hr
  dsimp only at *
  have NB : Aside0 (∀ e w', BegPost ⟨de, us, hs, ss⟩ w e w' ↔ ∃ wb, e = .returned (.pointer (some ⟨wb, 0, none⟩)) ∧ Wk w' wb w.heap.size ⟨de, us, hs, ss⟩ ∧ Below w.heap.size w w') := ⟨fun _ _ => Iff.rfl⟩
  have CU : Aside0 (∀ W, Below w.heap.size w W → Calls Tryz.prog 26 #[x1] W fun e w' => CloneP 63 2 us.length uc W e w') := ⟨fun W hW => clone_usr x1 _ uc W (Reads.below ur hW) (by omega) (usR_one uus)⟩
  have CH : Aside0 (∀ W, Below w.heap.size w W → Calls Tryz.prog 28 #[x2] W fun e w' => CloneP 36 65 hs.length (hsC hs) W e w') := ⟨fun W hW => clone_head x2 _ _ W (Reads.below hrr hW) (by omega) (hsC_one hs)⟩
  have CS : Aside0 (∀ W, Below w.heap.size w W → Calls Tryz.prog 29 #[x3] W fun e w' => CloneP 71 4 ss.length (ssC ss) W e w') := ⟨fun W hW => clone_ses x3 _ _ W (Reads.below srr hW) (by omega) (ssC_one ss)⟩
  obtain ⟨A1, c1, rfl, hc1⟩ := Reads.form ur
  obtain ⟨A2, c2, rfl, hc2⟩ := Reads.form hrr
  obtain ⟨A3, c3, rfl, hc3⟩ := Reads.form srr
  have UUS := Aside0.mk uus
  unfold dirV
  dsimp only
  clear ur uus hrr srr
  obtain ⟨W0, hW0⟩ : ∃ W0, w.alloc (.cells #[.int .i64 de, .slice A1 us.length c1, .slice A2 hs.length c2, .slice A3 ss.length c3] 28) = W0 := ⟨_, rfl⟩
  have b0 : Below w.heap.size w W0 := by rw [← hW0]; exact (Below.refl _ w).alloc (Nat.le_refl _) _
  have s0 : W0.heap.size = w.heap.size + 1 := by rw [← hW0]; simp
  have k0 : W0.heap[w.heap.size]? = some (.cells #[.int .i64 de, .slice A1 us.length c1, .slice A2 hs.length c2, .slice A3 ss.length c3] 28 (0, 0)) := by rw [← hW0]; exact blk_new w _
  have z1 : W0.cell? ⟨w.heap.size, 1, none⟩ = some (.slice A1 us.length c1) := by simp [World.cell?, k0]
  have HW0 := Aside0.mk hW0
  have U0 := Aside0.mk (CU.out W0 b0)
  have HK0 := Aside0.mk (And.intro k0 (And.intro s0 b0))
  clear hW0 k0 s0 b0 CU
  go_enter Tryz.func15, Tryz.ntmps15
  go_upto_region 1 with fail
  rw [HW0.out]
  go_upto_region 2 with (go_at_call 26; refine U0.out.mono ?_; rintro e W1 ⟨v1, rfl, ho1, hb1⟩; refine Aside0.out ?_)
  refine ⟨?_⟩
  obtain ⟨B1, d1, rfl, hd1⟩ := (Reads.of_own ho1).form
  obtain ⟨k0, s0, b0⟩ := HK0.out
  have k1 := (hb1.block w.heap.size (by omega)).trans k0
  have q1 : Below w.heap.size w W1 := b0.trans (hb1.mono (by omega))
  have f1 : W1.frozen? ⟨w.heap.size, 1, none⟩ = false := by simp [World.frozen?, k1]
  have g1 : W1.cell? ⟨w.heap.size, 1, none⟩ = some (.slice A1 us.length c1) := by simp [World.cell?, k1]
  have HS0 := Aside0.mk s0
  clear z1 k0 s0 b0
  go_upto_region 2 with fail
  have k2 := blk_put k1 1 (.slice B1 us.length d1) rfl
  have q2 : Below w.heap.size w (W1.setCell ⟨w.heap.size, 1, none⟩ (.slice B1 us.length d1)) := q1.setCell (Nat.le_refl _) _
  have ho2 : (W1.setCell ⟨w.heap.size, 1, none⟩ (.slice B1 us.length d1)).ownsRow w.heap.size 63 2 (.slice B1 us.length d1) us.length uc := own_weaken (own_move ho1 fun k e => Below.heap_setCell W1 _ _ k fun e2 => by
    have := (ho1.lt k e).1
    rw [HS0.out] at this
    have e3 : k = w.heap.size := e2
    omega) (by rw [HS0.out]; omega)
  generalize W1.setCell ⟨w.heap.size, 1, none⟩ (.slice B1 us.length d1) = W2 at *
  have z1 : W2.cell? ⟨w.heap.size, 1, none⟩ = some (.slice B1 us.length d1) := by simp [World.cell?, k2]
  have hw2 := q2.size
  have hw2' : w.heap.size < W2.heap.size := (Array.getElem?_eq_some_iff.1 k2).1
  have K2 := Aside0.mk (show BegL us w W2 (.int .i64 de) (.slice A2 hs.length c2) (.slice A3 ss.length c3) (.slice B1 us.length d1) (.int .i64 ((0 : Nat) : Int)) 0 from ⟨rfl, by omega, k2, ⟨uc, ho2, UsM.of_read UUS.out⟩, q2⟩)
  clear f1 g1 k1 q1 ho1 hb1 U0 ho2 k2 q2
  go_wp2_with fail
  go_loopg [12] us.length (fun gg s12 wr => ∃ i : Nat, us.length - i ≤ gg ∧ Aside (BegL us w wr (.int .i64 de) (.slice A2 hs.length c2) (.slice A3 ss.length c3) (.slice B1 us.length d1) s12 i))
  case atStart => exact ⟨0, by omega, K2.out⟩
  case round =>
    obtain ⟨i, hgg, L⟩ := hrel
    have LL := Aside0.mk L.out
    obtain rfl := LL.out.ix
    have hle := LL.out.le
    clear L z1
    by_cases hin : i < us.length
    · have hi0 : (i : Int) < (us.length : Int) := by omega
      have hge : (0 : Int) ≤ (i : Int) := by omega
      have hx : us[i]? = some us[i] := List.getElem?_eq_getElem hin
      obtain ⟨ucc, row, um⟩ := LL.out.row
      have qr := LL.out.below
      have kb := LL.out.box
      obtain ⟨ub, rfl⟩ : ∃ ub, B1 = some ⟨ub, 0, none⟩ := by
        rcases row.2 with ⟨h, h0⟩ | ⟨g, cap, cur, h, _⟩
        · omega
        · injection h with h
          exact ⟨g, h⟩
      obtain ⟨v, hc0, hc1', hv⟩ := um.at_ _ hx
      obtain ⟨va, vc, rfl, _⟩ := Reads.form hv
      have rl : wr.rangeAt ub (i * 2) [.string us[i].name, .slice va us[i].vs.length vc] := fun j u hj => by
        have hl : j < 2 := (List.getElem?_eq_some_iff.1 hj).1
        have hcl := fun n x (hx : ucc[n]? = some x) => by
          have := row.cells (g := ub) rfl n x hx
          rwa [Addr.add_lit, Nat.zero_add] at this
        match j, hl with
        | 0, _ => rw [← hj]; exact hcl _ _ hc0
        | 1, _ => rw [← hj]; exact hcl _ _ hc1'
      have hubl : ub < wr.heap.size := (row.lt ub rfl).2
      have CV : Aside0 (∀ W, Below w.heap.size w W → Calls Tryz.prog 27 #[.slice va us[i].vs.length vc] W fun e w' => CloneP 68 3 us[i].vs.length (vsC us[i].vs) W e w') := ⟨fun W hW => clone_ver _ _ _ W (Reads.below hv hW) (h4 _ (List.getElem_mem hin)) (vsC_one _)⟩
      have HX := Aside0.mk hx
      have HC1 := Aside0.mk hc1'
      have hi63 : (Tryz.prog.info? 63).map (·.size) = some [Value.string us[i].name, .slice va us[i].vs.length vc].length := by kernel_rfl
      have hi63a : (Tryz.prog.info? 63).map (·.size) = some #[Value.string us[i].name, .slice va us[i].vs.length vc].size := by kernel_rfl
      have hz63 : #[Value.string ⟨#[]⟩, .slice none 0 0].size = #[Value.string us[i].name, .slice va us[i].vs.length vc].size := rfl
      have h163 : #[Value.string us[i].name, .slice va us[i].vs.length vc].all (·.oneCell') = true := by simp [Value.oneCell']
      obtain ⟨un, hun⟩ : ∃ un, un = us[i].vs.length := ⟨_, rfl⟩
      rw [← hun] at rl CV HC1 hi63 hi63a hz63 h163
      have HUN := Aside0.mk hun
      clear hx hc0 hc1' hv hun
      go_upto_region 5 with (first | (refine wpList_load_mid rfl 63 (.tmp 15) rfl ub (i * 2) rfl _ _ rl Tryz.underlying63 rfl hi63 ?_) | (refine wpList_allocW rfl 63 rfl _ z63 ?_; intro W3 b3 s3 k3) | (refine wpList_store_row rfl 63 (.tmp 4) (.tmp 16) rfl wr.heap.size _ rfl rfl 63 _ k3 hi63a hz63 h163 ?_))
      have kx := setRow_heap W3 wr.heap.size _ #[Value.string us[i].name, .slice va un vc] 63 (0, 0) k3
      have bx : Below wr.heap.size wr (W3.setRow wr.heap.size #[Value.string us[i].name, .slice va un vc]) := below_setRow b3 _ (Nat.le_refl _) _
      have sx : (W3.setRow wr.heap.size #[Value.string us[i].name, .slice va un vc]).heap.size = wr.heap.size + 1 := by rw [size_setRow]; omega
      generalize W3.setRow wr.heap.size #[Value.string us[i].name, .slice va un vc] = W5 at kx bx sx ⊢
      have hwr := qr.size
      have q5 : Below w.heap.size w W5 := qr.trans (bx.mono hwr)
      have hw5 : w.heap.size ≤ W5.heap.size := q5.size
      have m1 : W5.cell? ⟨wr.heap.size, 1, none⟩ = some (.slice va un vc) := cell_in (l := [.string us[i].name, .slice va un vc]) kx rfl
      have hwlt : w.heap.size < wr.heap.size := (Array.getElem?_eq_some_iff.1 kb).1
      have k5 := (bx.block w.heap.size hwlt).trans kb
      have g1 : W5.cell? ⟨w.heap.size, 1, none⟩ = some (.slice (some ⟨ub, 0, none⟩) us.length d1) := by simp [World.cell?, k5]
      have row5 := own_move (w1 := W5) row fun k e => bx.block k (row.lt k e).2
      have um5 : UsM w W5 w.heap.size i us ucc := UsM.move (fun k cur _ hc => bx.block k (Array.getElem?_eq_some_iff.1 hc).1) um
      have hxl5 : wr.heap.size < W5.heap.size := by omega
      have hdl5 : w.heap.size < W5.heap.size := by omega
      have HNX : Aside0 (ub ≠ wr.heap.size) := ⟨by omega⟩
      have CV5 := Aside0.mk (CV.out W5.drew q5.drew)
      generalize wr.heap.size = xb at *
      clear k3 b3 s3 sx kx bx hi63 hi63a hz63 h163 rl kb row um CV
      go_upto_region 5 with fail
      refine wp_region_held_drew (S := (fun W => W.cell? ⟨w.heap.size, 1, none⟩ = some (.slice (some ⟨ub, 0, none⟩) us.length d1) ∧ W.cell? ⟨xb, 1, none⟩ = some (.slice va un vc))) (by kernel_rfl) (by exact ⟨g1, m1⟩) (fun hHeld => ?_)
      refine wpAnyH_take (i := 0) (oi := _) (v := ?_) rfl (by kernel_rfl) (by kernel_rfl) (by kernel_rfl) (fun _ _ _ h => h) (Or.inl ⟨by rfl, ?_⟩) (by assumption) ?_
      rotate_left
      · (intro w hSw; (try dsimp only at hSw); have s1_ := hSw.1; have s2_ := hSw.2; clear hSw; go_simp; (try with_reducible rfl))
      (try simp only [uA, uB, uC, uD, uE, uF, uG, uH])
      refine wpAnyH_take (i := 1) (oi := _) (v := ?_) rfl (by kernel_rfl) (by kernel_rfl) (by kernel_rfl) (fun _ _ _ h => h) (Or.inl ⟨by rfl, ?_⟩) (by assumption) ?_
      rotate_left
      · (intro w hSw; (try dsimp only at hSw); have s1_ := hSw.1; have s2_ := hSw.2; clear hSw; go_simp; (try with_reducible rfl))
      (try simp only [uA, uB, uC, uD, uE, uF, uG, uH])
      refine wpAnyH_take (i := 2) (oi := _) (v := ?_) rfl (by kernel_rfl) (by kernel_rfl) (by kernel_rfl) (fun _ _ _ h => h) (Or.inl ⟨by rfl, ?_⟩) (by assumption) ?_
      rotate_left
      · (intro w hSw; (try dsimp only at hSw); have s1_ := hSw.1; have s2_ := hSw.2; clear hSw; go_simp; (try with_reducible rfl))
      (try simp only [uA, uB, uC, uD, uE, uF, uG, uH])
      refine wpAnyH_take (i := 3) (oi := _) (v := ?_) rfl (by kernel_rfl) (by kernel_rfl) (by kernel_rfl) (fun _ _ _ h => h) (Or.inl ⟨by rfl, ?_⟩) (by assumption) ?_
      rotate_left
      · (intro w hSw; (try dsimp only at hSw); have s1_ := hSw.1; have s2_ := hSw.2; clear hSw; go_simp; (try with_reducible rfl))
      (try simp only [uA, uB, uC, uD, uE, uF, uG, uH])
      refine wpAnyH_take (i := 4) (oi := _) (v := ?_) rfl (by kernel_rfl) (by kernel_rfl) (by kernel_rfl) (fun _ _ _ h => h) (Or.inl ⟨by rfl, ?_⟩) (by assumption) ?_
      rotate_left
      · (intro w hSw; (try dsimp only at hSw); have s1_ := hSw.1; have s2_ := hSw.2; clear hSw; go_simp; (try with_reducible rfl))
      (try simp only [uA, uB, uC, uD, uE, uF, uG, uH])
      refine wpAnyH_ready (rs := [5]) (by kernel_rfl) (by decide) (AllReadyH.cons rfl (fun K' hK => ?_) AllReadyH.nil)
      rw [if_pos (by rfl)]
      go_simp
      refine (CV5.out).mono ?_
      rintro e W7 ⟨v7, rfl, ho7, hd7⟩
      (try dsimp only)
      have h57 : Below W5.heap.size W5 W7 := (Below.refl _ _).drew.trans hd7
      have g7 : W7.cell? ⟨w.heap.size, 1, none⟩ = some (.slice (some ⟨ub, 0, none⟩) us.length d1) := (h57.cell (p := ⟨w.heap.size, 1, none⟩) hdl5).trans g1
      have m7 : W7.cell? ⟨xb, 1, none⟩ = some (.slice va un vc) := (h57.cell (p := ⟨xb, 1, none⟩) hxl5).trans m1
      have row7 : W7.ownsRow w.heap.size 63 2 (.slice (some ⟨ub, 0, none⟩) us.length d1) us.length ucc := own_move row5 fun k e => h57.block k (row5.lt k e).2
      have k7 : W7.heap[w.heap.size]? = some (.cells #[.int .i64 de, .slice (some ⟨ub, 0, none⟩) us.length d1, .slice A2 hs.length c2, .slice A3 ss.length c3] 28 (0, 0)) := (h57.block _ hdl5).trans k5
      have um7 : UsM w W7 w.heap.size i us ucc := UsM.move (fun k cur _ hc => h57.block k (Array.getElem?_eq_some_iff.1 hc).1) um5
      refine hK.out _ _ (by exact ⟨g7, m7⟩) (fun hHeld => ?_)
      clear hK
      (try simp only [uA, uB, uC, uD, uE, uF, uG, uH])
      refine wpAnyH_take (i := 6) (oi := _) (v := .pointer (some ⟨ub, i * 2, none⟩)) rfl (by kernel_rfl) (by kernel_rfl) (by kernel_rfl) (fun _ _ _ h => h) (Or.inl ⟨by rfl, ?_⟩) (by assumption) ?_
      rotate_left 0
      · (intro w hSw; (try dsimp only at hSw); have s1_ := hSw.1; have s2_ := hSw.2; clear hSw; go_simp; (try with_reducible rfl))
      (try simp only [uA, uB, uC, uD, uE, uF, uG, uH])
      refine wpAnyH_take (i := 7) (oi := _) (v := .pointer (some ⟨ub, i * 2 + 1, none⟩)) rfl (by kernel_rfl) (by kernel_rfl) (by kernel_rfl) (fun _ _ _ h => h) (Or.inl ⟨by rfl, ?_⟩) (by assumption) ?_
      rotate_left 0
      · (intro w hSw; (try dsimp only at hSw); have s1_ := hSw.1; have s2_ := hSw.2; clear hSw; go_simp; (try with_reducible rfl))
      (try simp only [uA, uB, uC, uD, uE, uF, uG, uH])
      obtain ⟨va7, vc7, rfl, _⟩ := (Reads.of_own ho7).form
      have st := row7.stored (i * 2 + 1) (.slice va7 un vc7)
      have xi1 : ucc[i * 2 + 1]? = some (.slice va un vc) := HC1.out
      have o7 : W7.cell? ⟨ub, i * 2 + 1, none⟩ = some (.slice va un vc) := by
        have := row7.cells (g := ub) rfl _ _ xi1
        rwa [Addr.add_lit, Nat.zero_add] at this
      have fz7 : W7.frozen? ⟨ub, i * 2 + 1, none⟩ = false := row7.frozenAt _
      have hne : ub ≠ w.heap.size := fun e => by
        obtain ⟨cur, hcur⟩ := own_typed row7 ub rfl
        rw [e, k7] at hcur
        cases hcur
      have hnx : ub ≠ xb := HNX.out
      have g8 : (W7.setCell ⟨ub, i * 2 + 1, none⟩ (.slice va7 un vc7)).cell? ⟨w.heap.size, 1, none⟩ = some (.slice (some ⟨ub, 0, none⟩) us.length d1) := (World.cell?_of_block (w := W7) (Below.heap_setCell W7 _ _ _ (fun e => hne e.symm))).trans g7
      have m8 : (W7.setCell ⟨ub, i * 2 + 1, none⟩ (.slice va7 un vc7)).cell? ⟨xb, 1, none⟩ = some (.slice va un vc) := (World.cell?_of_block (w := W7) (Below.heap_setCell W7 _ _ _ (fun e => hnx e.symm))).trans m7
      refine wpAnyH_ready (rs := [8]) (by kernel_rfl) (by decide) (AllReadyH.cons rfl (fun K' hK => ?_) AllReadyH.nil)
      rw [if_pos (by rfl)]
      go_simp
      refine hK.out _ _ (by exact ⟨g8, m8⟩) (fun hHeld => ?_)
      clear hK
      (try simp only [uA, uB, uC, uD, uE, uF, uG, uH])
      refine wpAnyH_done (by kernel_rfl) ?_ _
      have um8 : UsM w (W7.setCell ⟨ub, i * 2 + 1, none⟩ (.slice va7 un vc7)) w.heap.size (i + 1) us (ucc.set (i * 2 + 1) (.slice va7 un vc7)) := by
        have hmv : ∀ k cur, w.heap.size ≤ k → W7.heap[k]? = some (.cells cur 68 (0, 0)) → (W7.setCell ⟨ub, i * 2 + 1, none⟩ (.slice va7 un vc7)).heap[k]? = W7.heap[k]? := fun k cur _ hc => Below.heap_setCell W7 _ _ k fun e => by
          obtain ⟨cur2, hcur⟩ := own_typed row7 ub rfl
          rw [show k = ub from e, hcur] at hc
          cases hc
        refine UsM.move hmv (UsM.set us[i] HX.out um7 ?_)
        rw [← HUN.out]
        exact own_weaken (own_move ho7 fun k e => rfl) hw5
      have B8 : BegL us w (W7.setCell ⟨ub, i * 2 + 1, none⟩ (.slice va7 un vc7)) (.int .i64 de) (.slice A2 hs.length c2) (.slice A3 ss.length c3) (.slice (some ⟨ub, 0, none⟩) us.length d1) (.int .i64 ((i + 1 : Nat) : Int)) (i + 1) :=
        ⟨rfl, hin, (Below.heap_setCell W7 _ _ _ (fun e => hne e.symm)).trans k7, ⟨_, st.1, um8⟩, (q5.trans (h57.mono hw5)).setCell (by show w.heap.size ≤ ub; exact (row7.lt ub rfl).1) _⟩
      have BB8 := Aside0.mk B8
      clear B8 um8 st o7 fz7 g8 m8 g7 m7 row7 k7 um7 h57 ho7 hd7 xi1 row5 um5 k5 g1 m1
      go_wp2_with fail
      go_roundg (us.length - (i + 1))
      case measure => omega
      case rel => exact ⟨i + 1, Nat.le_refl _, by have h9 := BB8.out; exact ⟨by simp, h9.le, h9.box, h9.row, h9.below⟩⟩
    · obtain rfl : i = us.length := by omega
      have hnl : ¬ (us.length : Int) < (us.length : Int) := by omega
      obtain ⟨ucc, row, um⟩ := LL.out.row
      have qr := LL.out.below
      have kb := LL.out.box
      have hwr := qr.size
      have hwlt : w.heap.size < wr.heap.size := (Array.getElem?_eq_some_iff.1 kb).1
      have x2c : wr.cell? ⟨w.heap.size, 2, none⟩ = some (.slice A2 hs.length c2) := by simp [World.cell?, kb]
      have x3c : wr.cell? ⟨w.heap.size, 3, none⟩ = some (.slice A3 ss.length c3) := by simp [World.cell?, kb]
      have CHr := Aside0.mk (CH.out wr.drew qr.drew)
      go_upto_region 7 with fail
      refine wp_region_held_drew (S := (fun _ => True)) (by kernel_rfl) (by trivial) (fun hHeld => ?_)
      refine wpAnyH_take (i := 0) (oi := _) (v := ?_) rfl (by kernel_rfl) (by kernel_rfl) (by kernel_rfl) (fun _ _ _ h => h) (Or.inl ⟨by rfl, ?_⟩) (by assumption) ?_
      rotate_left
      · (intro w hSw; (try dsimp only at hSw); go_simp; (try with_reducible rfl))
      (try simp only [uA, uB, uC, uD, uE, uF, uG, uH])
      refine wpAnyH_take (i := 3) (oi := _) (v := ?_) rfl (by kernel_rfl) (by kernel_rfl) (by kernel_rfl) (fun _ _ _ h => h) (Or.inl ⟨by rfl, ?_⟩) (by assumption) ?_
      rotate_left
      · (intro w hSw; (try dsimp only at hSw); go_simp; (try with_reducible rfl))
      (try simp only [uA, uB, uC, uD, uE, uF, uG, uH])
      refine wpAnyH_ready (rs := [1, 4]) (by kernel_rfl) (by decide) (AllReadyH.cons rfl (fun K' hK => ?_) (AllReadyH.cons rfl (fun K' hK => ?_) AllReadyH.nil))
      · rw [if_pos (by rfl)]
        go_simp
        refine hK.out _ _ trivial (fun hHeld => ?_)
        clear hK
        (try simp only [uA, uB, uC, uD, uE, uF, uG, uH])
        refine wpAnyH_ready (rs := [2, 4]) (by kernel_rfl) (by decide) (AllReadyH.cons rfl (fun K' hK => ?_) (AllReadyH.cons rfl (fun K' hK => ?_) AllReadyH.nil))
        · rw [if_pos (by rfl)]
          go_simp
          refine (CHr.out).mono ?_
          rintro e W7 ⟨vh, rfl, hoh, hdh⟩
          (try dsimp only)
          have q7 : Below w.heap.size w W7 := qr.drew.trans (hdh.mono hwr)
          have k7 : W7.heap[w.heap.size]? = some (.cells #[.int .i64 de, .slice B1 us.length d1, .slice A2 hs.length c2, .slice A3 ss.length c3] 28 (0, 0)) := (hdh.block _ hwlt).trans kb
          have y3 : W7.cell? ⟨w.heap.size, 3, none⟩ = some (.slice A3 ss.length c3) := by simp [World.cell?, k7]
          have CS7 := Aside0.mk (CS.out W7 q7)
          refine hK.out _ _ trivial (fun hHeld => ?_)
          clear hK
          (try simp only [uA, uB, uC, uD, uE, uF, uG, uH])
          refine wpAnyH_ready (rs := [4]) (by kernel_rfl) (by decide) (AllReadyH.cons rfl (fun K' hK => ?_) AllReadyH.nil)
          rw [if_pos (by rfl)]
          go_simp
          refine hK.out _ _ trivial (fun hHeld => ?_)
          clear hK
          (try simp only [uA, uB, uC, uD, uE, uF, uG, uH])
          refine wpAnyH_take (i := 6) (oi := _) (v := ?_) rfl (by kernel_rfl) (by kernel_rfl) (by kernel_rfl) (fun _ _ _ h => h) (Or.inl ⟨by rfl, ?_⟩) (by assumption) ?_
          rotate_left
          · (intro w hSw; (try dsimp only at hSw); go_simp; (try with_reducible rfl))
          (try simp only [uA, uB, uC, uD, uE, uF, uG, uH])
          refine wpAnyH_ready (rs := [5]) (by kernel_rfl) (by decide) (AllReadyH.cons rfl (fun K' hK => ?_) AllReadyH.nil)
          rw [if_pos (by rfl)]
          go_simp
          refine (CS7.out).mono ?_
          rintro e W8 ⟨vs, rfl, hos, hds⟩
          (try dsimp only)
          refine hK.out _ _ trivial (fun hHeld => ?_)
          clear hK
          (try simp only [uA, uB, uC, uD, uE, uF, uG, uH])
          have hs7 : wr.heap.size ≤ W7.heap.size := hdh.size
          have hs8 := hds.size
          have q8 : Below w.heap.size w W8 := q7.trans (hds.mono q7.size)
          have k8 := (hds.block w.heap.size (by omega)).trans k7
          obtain ⟨Ah, ch, rfl, _⟩ := (Reads.of_own hoh).form
          obtain ⟨As, cs, rfl, _⟩ := (Reads.of_own hos).form
          have y2 : W8.cell? ⟨w.heap.size, 2, none⟩ = some (.slice A2 hs.length c2) := by simp [World.cell?, k8]
          have y3' : W8.cell? ⟨w.heap.size, 3, none⟩ = some (.slice A3 ss.length c3) := by simp [World.cell?, k8]
          have fy2 : W8.frozen? ⟨w.heap.size, 2, none⟩ = false := by simp [World.frozen?, k8]
          have fy3 : W8.frozen? ⟨w.heap.size, 3, none⟩ = false := by simp [World.frozen?, k8]
          refine wpAnyH_ready (rs := [7]) (by kernel_rfl) (by decide) (AllReadyH.cons rfl (fun K' hK => ?_) AllReadyH.nil)
          rw [if_pos (by rfl)]
          go_simp
          refine hK.out _ _ (by trivial) (fun hHeld => ?_)
          clear hK
          (try simp only [uA, uB, uC, uD, uE, uF, uG, uH])
          refine wpAnyH_take (i := 8) (oi := _) (v := ?_) rfl (by kernel_rfl) (by kernel_rfl) (by kernel_rfl) (fun _ _ _ h => h) (Or.inl ⟨by rfl, ?_⟩) (by assumption) ?_
          rotate_left
          · (intro w hSw; (try dsimp only at hSw); go_simp; (try with_reducible rfl))
          (try simp only [uA, uB, uC, uD, uE, uF, uG, uH])
          refine wpAnyH_ready (rs := [9]) (by kernel_rfl) (by decide) (AllReadyH.cons rfl (fun K' hK => ?_) AllReadyH.nil)
          rw [if_pos (by rfl)]
          go_simp
          refine hK.out _ _ (by trivial) (fun hHeld => ?_)
          clear hK
          (try simp only [uA, uB, uC, uD, uE, uF, uG, uH])
          refine wpAnyH_done (by kernel_rfl) ?_ _
          have k9 := blk_put (blk_put k8 2 (.slice Ah hs.length ch) rfl) 3 (.slice As ss.length cs) rfl
          have mv : ∀ k, k ≠ w.heap.size → ((W8.setCell ⟨w.heap.size, 2, none⟩ (.slice Ah hs.length ch)).setCell ⟨w.heap.size, 3, none⟩ (.slice As ss.length cs)).heap[k]? = W8.heap[k]? := fun k hk => (Below.heap_setCell _ _ _ k hk).trans (Below.heap_setCell _ _ _ k hk)
          have q9 : Below w.heap.size w ((W8.setCell ⟨w.heap.size, 2, none⟩ (.slice Ah hs.length ch)).setCell ⟨w.heap.size, 3, none⟩ (.slice As ss.length cs)) := (q8.setCell (Nat.le_refl _) _).setCell (Nat.le_refl _) _
          have n28 : ∀ (W : World) (v : Value) (b t sz n : Nat) (xs : List Value), W.ownsRow b t sz v n xs → t ≠ 28 → W.heap[w.heap.size]? = some (.cells #[.int .i64 de, .slice B1 us.length d1, .slice A2 hs.length c2, .slice A3 ss.length c3] 28 (0, 0)) → ∀ k, v.ownBlock = some k → k ≠ w.heap.size := fun W v b t sz n xs ho ht hk k e e2 => by
            obtain ⟨cur, hcur⟩ := own_typed ho k e
            rw [e2, hk] at hcur
            injection hcur with hcur
            injection hcur with _ hcur
            exact ht hcur.symm
          have r8 : W8.ownsRow w.heap.size 63 2 (.slice B1 us.length d1) us.length ucc := own_move row fun k e => (hds.block k (by have := (row.lt k e).2; omega)).trans (hdh.block k (row.lt k e).2)
          have oh8 : W8.ownsRow w.heap.size 36 65 (.slice Ah hs.length ch) hs.length (hsC hs) := own_weaken (own_move hoh fun k e => hds.block k (hoh.lt k e).2) hwr
          have os8 : W8.ownsRow w.heap.size 71 4 (.slice As ss.length cs) ss.length (ssC ss) := own_weaken hos (by omega)
          have r9 := own_move r8 fun k e => mv k (n28 W8 _ _ _ _ _ _ r8 (by decide) k8 k e)
          have oh9 := own_move oh8 fun k e => mv k (n28 W8 _ _ _ _ _ _ oh8 (by decide) k8 k e)
          have os9 := own_move os8 fun k e => mv k (n28 W8 _ _ _ _ _ _ os8 (by decide) k8 k e)
          have uc9 : UsC ((W8.setCell ⟨w.heap.size, 2, none⟩ (.slice Ah hs.length ch)).setCell ⟨w.heap.size, 3, none⟩ (.slice As ss.length cs)) w.heap.size us ucc := UsC.move (w := wr) (fun k cur _ hc => (mv k (fun e => by
            have h9 := hc
            rw [e, kb] at h9
            cases h9)).trans ((hds.block k (by have := (Array.getElem?_eq_some_iff.1 hc).1; omega)).trans (hdh.block k (Array.getElem?_eq_some_iff.1 hc).1))) (UsM.all (Nat.le_refl _) um)
          generalize (W8.setCell ⟨w.heap.size, 2, none⟩ (.slice Ah hs.length ch)).setCell ⟨w.heap.size, 3, none⟩ (.slice As ss.length cs) = W9 at *
          have p0 : W9.cell? ⟨w.heap.size, 0, none⟩ = some (.int .i64 de) := by simp [World.cell?, k9]
          have p1 : W9.cell? ⟨w.heap.size, 1, none⟩ = some (.slice B1 us.length d1) := by simp [World.cell?, k9]
          have p2 : W9.cell? ⟨w.heap.size, 2, none⟩ = some (.slice Ah hs.length ch) := by simp [World.cell?, k9]
          have p3 : W9.cell? ⟨w.heap.size, 3, none⟩ = some (.slice As ss.length cs) := by simp [World.cell?, k9]
          have DC : Aside0 (DirC W9 w.heap.size ⟨de, us, hs, ss⟩ (.slice B1 us.length d1) (.slice Ah hs.length ch) (.slice As ss.length cs)) := ⟨⟨⟨ucc, r9, uc9⟩, oh9, os9⟩⟩
          have Q9 := Aside0.mk q9
          clear r9 uc9 oh9 os9 r8 oh8 os8 n28 mv k9 q9 k8 q8 k7 q7 hoh hos hdh hds y2 y3 y3' fy2 fy3 CS7
          go_wp2_with fail
          go_ret
          have bA := (Below.refl W9.heap.size W9).alloc (Nat.le_refl _) (.cells #[.int .i64 de, .slice B1 us.length d1, .slice Ah hs.length ch, .slice As ss.length cs] 47)
          exact (NB.out _ _).2 ⟨W9.heap.size, rfl, ⟨Q9.out.size, _, _, _, blk_new W9 _, DC.out.below bA⟩, Q9.out.alloc Q9.out.size _⟩
        · rw [if_pos (by rfl)]
          go_simp
          refine hK.out _ _ trivial (fun hHeld => ?_)
          clear hK
          (try simp only [uA, uB, uC, uD, uE, uF, uG, uH])
          refine wpAnyH_ready (rs := [2]) (by kernel_rfl) (by decide) (AllReadyH.cons rfl (fun K' hK => ?_) AllReadyH.nil)
          rw [if_pos (by rfl)]
          go_simp
          refine (CHr.out).mono ?_
          rintro e W7 ⟨vh, rfl, hoh, hdh⟩
          (try dsimp only)
          have q7 : Below w.heap.size w W7 := qr.drew.trans (hdh.mono hwr)
          have k7 : W7.heap[w.heap.size]? = some (.cells #[.int .i64 de, .slice B1 us.length d1, .slice A2 hs.length c2, .slice A3 ss.length c3] 28 (0, 0)) := (hdh.block _ hwlt).trans kb
          have y3 : W7.cell? ⟨w.heap.size, 3, none⟩ = some (.slice A3 ss.length c3) := by simp [World.cell?, k7]
          have CS7 := Aside0.mk (CS.out W7 q7)
          refine hK.out _ _ trivial (fun hHeld => ?_)
          clear hK
          (try simp only [uA, uB, uC, uD, uE, uF, uG, uH])
          refine wpAnyH_take (i := 6) (oi := _) (v := ?_) rfl (by kernel_rfl) (by kernel_rfl) (by kernel_rfl) (fun _ _ _ h => h) (Or.inl ⟨by rfl, ?_⟩) (by assumption) ?_
          rotate_left
          · (intro w hSw; (try dsimp only at hSw); go_simp; (try with_reducible rfl))
          (try simp only [uA, uB, uC, uD, uE, uF, uG, uH])
          refine wpAnyH_ready (rs := [5]) (by kernel_rfl) (by decide) (AllReadyH.cons rfl (fun K' hK => ?_) AllReadyH.nil)
          rw [if_pos (by rfl)]
          go_simp
          refine (CS7.out).mono ?_
          rintro e W8 ⟨vs, rfl, hos, hds⟩
          (try dsimp only)
          refine hK.out _ _ trivial (fun hHeld => ?_)
          clear hK
          (try simp only [uA, uB, uC, uD, uE, uF, uG, uH])
          have hs7 : wr.heap.size ≤ W7.heap.size := hdh.size
          have hs8 := hds.size
          have q8 : Below w.heap.size w W8 := q7.trans (hds.mono q7.size)
          have k8 := (hds.block w.heap.size (by omega)).trans k7
          obtain ⟨Ah, ch, rfl, _⟩ := (Reads.of_own hoh).form
          obtain ⟨As, cs, rfl, _⟩ := (Reads.of_own hos).form
          have y2 : W8.cell? ⟨w.heap.size, 2, none⟩ = some (.slice A2 hs.length c2) := by simp [World.cell?, k8]
          have y3' : W8.cell? ⟨w.heap.size, 3, none⟩ = some (.slice A3 ss.length c3) := by simp [World.cell?, k8]
          have fy2 : W8.frozen? ⟨w.heap.size, 2, none⟩ = false := by simp [World.frozen?, k8]
          have fy3 : W8.frozen? ⟨w.heap.size, 3, none⟩ = false := by simp [World.frozen?, k8]
          refine wpAnyH_ready (rs := [7]) (by kernel_rfl) (by decide) (AllReadyH.cons rfl (fun K' hK => ?_) AllReadyH.nil)
          rw [if_pos (by rfl)]
          go_simp
          refine hK.out _ _ (by trivial) (fun hHeld => ?_)
          clear hK
          (try simp only [uA, uB, uC, uD, uE, uF, uG, uH])
          refine wpAnyH_take (i := 8) (oi := _) (v := ?_) rfl (by kernel_rfl) (by kernel_rfl) (by kernel_rfl) (fun _ _ _ h => h) (Or.inl ⟨by rfl, ?_⟩) (by assumption) ?_
          rotate_left
          · (intro w hSw; (try dsimp only at hSw); go_simp; (try with_reducible rfl))
          (try simp only [uA, uB, uC, uD, uE, uF, uG, uH])
          refine wpAnyH_ready (rs := [9]) (by kernel_rfl) (by decide) (AllReadyH.cons rfl (fun K' hK => ?_) AllReadyH.nil)
          rw [if_pos (by rfl)]
          go_simp
          refine hK.out _ _ (by trivial) (fun hHeld => ?_)
          clear hK
          (try simp only [uA, uB, uC, uD, uE, uF, uG, uH])
          refine wpAnyH_done (by kernel_rfl) ?_ _
          have k9 := blk_put (blk_put k8 2 (.slice Ah hs.length ch) rfl) 3 (.slice As ss.length cs) rfl
          have mv : ∀ k, k ≠ w.heap.size → ((W8.setCell ⟨w.heap.size, 2, none⟩ (.slice Ah hs.length ch)).setCell ⟨w.heap.size, 3, none⟩ (.slice As ss.length cs)).heap[k]? = W8.heap[k]? := fun k hk => (Below.heap_setCell _ _ _ k hk).trans (Below.heap_setCell _ _ _ k hk)
          have q9 : Below w.heap.size w ((W8.setCell ⟨w.heap.size, 2, none⟩ (.slice Ah hs.length ch)).setCell ⟨w.heap.size, 3, none⟩ (.slice As ss.length cs)) := (q8.setCell (Nat.le_refl _) _).setCell (Nat.le_refl _) _
          have n28 : ∀ (W : World) (v : Value) (b t sz n : Nat) (xs : List Value), W.ownsRow b t sz v n xs → t ≠ 28 → W.heap[w.heap.size]? = some (.cells #[.int .i64 de, .slice B1 us.length d1, .slice A2 hs.length c2, .slice A3 ss.length c3] 28 (0, 0)) → ∀ k, v.ownBlock = some k → k ≠ w.heap.size := fun W v b t sz n xs ho ht hk k e e2 => by
            obtain ⟨cur, hcur⟩ := own_typed ho k e
            rw [e2, hk] at hcur
            injection hcur with hcur
            injection hcur with _ hcur
            exact ht hcur.symm
          have r8 : W8.ownsRow w.heap.size 63 2 (.slice B1 us.length d1) us.length ucc := own_move row fun k e => (hds.block k (by have := (row.lt k e).2; omega)).trans (hdh.block k (row.lt k e).2)
          have oh8 : W8.ownsRow w.heap.size 36 65 (.slice Ah hs.length ch) hs.length (hsC hs) := own_weaken (own_move hoh fun k e => hds.block k (hoh.lt k e).2) hwr
          have os8 : W8.ownsRow w.heap.size 71 4 (.slice As ss.length cs) ss.length (ssC ss) := own_weaken hos (by omega)
          have r9 := own_move r8 fun k e => mv k (n28 W8 _ _ _ _ _ _ r8 (by decide) k8 k e)
          have oh9 := own_move oh8 fun k e => mv k (n28 W8 _ _ _ _ _ _ oh8 (by decide) k8 k e)
          have os9 := own_move os8 fun k e => mv k (n28 W8 _ _ _ _ _ _ os8 (by decide) k8 k e)
          have uc9 : UsC ((W8.setCell ⟨w.heap.size, 2, none⟩ (.slice Ah hs.length ch)).setCell ⟨w.heap.size, 3, none⟩ (.slice As ss.length cs)) w.heap.size us ucc := UsC.move (w := wr) (fun k cur _ hc => (mv k (fun e => by
            have h9 := hc
            rw [e, kb] at h9
            cases h9)).trans ((hds.block k (by have := (Array.getElem?_eq_some_iff.1 hc).1; omega)).trans (hdh.block k (Array.getElem?_eq_some_iff.1 hc).1))) (UsM.all (Nat.le_refl _) um)
          generalize (W8.setCell ⟨w.heap.size, 2, none⟩ (.slice Ah hs.length ch)).setCell ⟨w.heap.size, 3, none⟩ (.slice As ss.length cs) = W9 at *
          have p0 : W9.cell? ⟨w.heap.size, 0, none⟩ = some (.int .i64 de) := by simp [World.cell?, k9]
          have p1 : W9.cell? ⟨w.heap.size, 1, none⟩ = some (.slice B1 us.length d1) := by simp [World.cell?, k9]
          have p2 : W9.cell? ⟨w.heap.size, 2, none⟩ = some (.slice Ah hs.length ch) := by simp [World.cell?, k9]
          have p3 : W9.cell? ⟨w.heap.size, 3, none⟩ = some (.slice As ss.length cs) := by simp [World.cell?, k9]
          have DC : Aside0 (DirC W9 w.heap.size ⟨de, us, hs, ss⟩ (.slice B1 us.length d1) (.slice Ah hs.length ch) (.slice As ss.length cs)) := ⟨⟨⟨ucc, r9, uc9⟩, oh9, os9⟩⟩
          have Q9 := Aside0.mk q9
          clear r9 uc9 oh9 os9 r8 oh8 os8 n28 mv k9 q9 k8 q8 k7 q7 hoh hos hdh hds y2 y3 y3' fy2 fy3 CS7
          go_wp2_with fail
          go_ret
          have bA := (Below.refl W9.heap.size W9).alloc (Nat.le_refl _) (.cells #[.int .i64 de, .slice B1 us.length d1, .slice Ah hs.length ch, .slice As ss.length cs] 47)
          exact (NB.out _ _).2 ⟨W9.heap.size, rfl, ⟨Q9.out.size, _, _, _, blk_new W9 _, DC.out.below bA⟩, Q9.out.alloc Q9.out.size _⟩
      · rw [if_pos (by rfl)]
        go_simp
        refine hK.out _ _ trivial (fun hHeld => ?_)
        clear hK
        (try simp only [uA, uB, uC, uD, uE, uF, uG, uH])
        refine wpAnyH_ready (rs := [1]) (by kernel_rfl) (by decide) (AllReadyH.cons rfl (fun K' hK => ?_) AllReadyH.nil)
        rw [if_pos (by rfl)]
        go_simp
        refine hK.out _ _ trivial (fun hHeld => ?_)
        clear hK
        (try simp only [uA, uB, uC, uD, uE, uF, uG, uH])
        refine wpAnyH_ready (rs := [2]) (by kernel_rfl) (by decide) (AllReadyH.cons rfl (fun K' hK => ?_) AllReadyH.nil)
        rw [if_pos (by rfl)]
        go_simp
        refine (CHr.out).mono ?_
        rintro e W7 ⟨vh, rfl, hoh, hdh⟩
        (try dsimp only)
        have q7 : Below w.heap.size w W7 := qr.drew.trans (hdh.mono hwr)
        have k7 : W7.heap[w.heap.size]? = some (.cells #[.int .i64 de, .slice B1 us.length d1, .slice A2 hs.length c2, .slice A3 ss.length c3] 28 (0, 0)) := (hdh.block _ hwlt).trans kb
        have y3 : W7.cell? ⟨w.heap.size, 3, none⟩ = some (.slice A3 ss.length c3) := by simp [World.cell?, k7]
        have CS7 := Aside0.mk (CS.out W7 q7)
        refine hK.out _ _ trivial (fun hHeld => ?_)
        clear hK
        (try simp only [uA, uB, uC, uD, uE, uF, uG, uH])
        refine wpAnyH_take (i := 6) (oi := _) (v := ?_) rfl (by kernel_rfl) (by kernel_rfl) (by kernel_rfl) (fun _ _ _ h => h) (Or.inl ⟨by rfl, ?_⟩) (by assumption) ?_
        rotate_left
        · (intro w hSw; (try dsimp only at hSw); go_simp; (try with_reducible rfl))
        (try simp only [uA, uB, uC, uD, uE, uF, uG, uH])
        refine wpAnyH_ready (rs := [5]) (by kernel_rfl) (by decide) (AllReadyH.cons rfl (fun K' hK => ?_) AllReadyH.nil)
        rw [if_pos (by rfl)]
        go_simp
        refine (CS7.out).mono ?_
        rintro e W8 ⟨vs, rfl, hos, hds⟩
        (try dsimp only)
        refine hK.out _ _ trivial (fun hHeld => ?_)
        clear hK
        (try simp only [uA, uB, uC, uD, uE, uF, uG, uH])
        have hs7 : wr.heap.size ≤ W7.heap.size := hdh.size
        have hs8 := hds.size
        have q8 : Below w.heap.size w W8 := q7.trans (hds.mono q7.size)
        have k8 := (hds.block w.heap.size (by omega)).trans k7
        obtain ⟨Ah, ch, rfl, _⟩ := (Reads.of_own hoh).form
        obtain ⟨As, cs, rfl, _⟩ := (Reads.of_own hos).form
        have y2 : W8.cell? ⟨w.heap.size, 2, none⟩ = some (.slice A2 hs.length c2) := by simp [World.cell?, k8]
        have y3' : W8.cell? ⟨w.heap.size, 3, none⟩ = some (.slice A3 ss.length c3) := by simp [World.cell?, k8]
        have fy2 : W8.frozen? ⟨w.heap.size, 2, none⟩ = false := by simp [World.frozen?, k8]
        have fy3 : W8.frozen? ⟨w.heap.size, 3, none⟩ = false := by simp [World.frozen?, k8]
        refine wpAnyH_ready (rs := [7]) (by kernel_rfl) (by decide) (AllReadyH.cons rfl (fun K' hK => ?_) AllReadyH.nil)
        rw [if_pos (by rfl)]
        go_simp
        refine hK.out _ _ (by trivial) (fun hHeld => ?_)
        clear hK
        (try simp only [uA, uB, uC, uD, uE, uF, uG, uH])
        refine wpAnyH_take (i := 8) (oi := _) (v := ?_) rfl (by kernel_rfl) (by kernel_rfl) (by kernel_rfl) (fun _ _ _ h => h) (Or.inl ⟨by rfl, ?_⟩) (by assumption) ?_
        rotate_left
        · (intro w hSw; (try dsimp only at hSw); go_simp; (try with_reducible rfl))
        (try simp only [uA, uB, uC, uD, uE, uF, uG, uH])
        refine wpAnyH_ready (rs := [9]) (by kernel_rfl) (by decide) (AllReadyH.cons rfl (fun K' hK => ?_) AllReadyH.nil)
        rw [if_pos (by rfl)]
        go_simp
        refine hK.out _ _ (by trivial) (fun hHeld => ?_)
        clear hK
        (try simp only [uA, uB, uC, uD, uE, uF, uG, uH])
        refine wpAnyH_done (by kernel_rfl) ?_ _
        have k9 := blk_put (blk_put k8 2 (.slice Ah hs.length ch) rfl) 3 (.slice As ss.length cs) rfl
        have mv : ∀ k, k ≠ w.heap.size → ((W8.setCell ⟨w.heap.size, 2, none⟩ (.slice Ah hs.length ch)).setCell ⟨w.heap.size, 3, none⟩ (.slice As ss.length cs)).heap[k]? = W8.heap[k]? := fun k hk => (Below.heap_setCell _ _ _ k hk).trans (Below.heap_setCell _ _ _ k hk)
        have q9 : Below w.heap.size w ((W8.setCell ⟨w.heap.size, 2, none⟩ (.slice Ah hs.length ch)).setCell ⟨w.heap.size, 3, none⟩ (.slice As ss.length cs)) := (q8.setCell (Nat.le_refl _) _).setCell (Nat.le_refl _) _
        have n28 : ∀ (W : World) (v : Value) (b t sz n : Nat) (xs : List Value), W.ownsRow b t sz v n xs → t ≠ 28 → W.heap[w.heap.size]? = some (.cells #[.int .i64 de, .slice B1 us.length d1, .slice A2 hs.length c2, .slice A3 ss.length c3] 28 (0, 0)) → ∀ k, v.ownBlock = some k → k ≠ w.heap.size := fun W v b t sz n xs ho ht hk k e e2 => by
          obtain ⟨cur, hcur⟩ := own_typed ho k e
          rw [e2, hk] at hcur
          injection hcur with hcur
          injection hcur with _ hcur
          exact ht hcur.symm
        have r8 : W8.ownsRow w.heap.size 63 2 (.slice B1 us.length d1) us.length ucc := own_move row fun k e => (hds.block k (by have := (row.lt k e).2; omega)).trans (hdh.block k (row.lt k e).2)
        have oh8 : W8.ownsRow w.heap.size 36 65 (.slice Ah hs.length ch) hs.length (hsC hs) := own_weaken (own_move hoh fun k e => hds.block k (hoh.lt k e).2) hwr
        have os8 : W8.ownsRow w.heap.size 71 4 (.slice As ss.length cs) ss.length (ssC ss) := own_weaken hos (by omega)
        have r9 := own_move r8 fun k e => mv k (n28 W8 _ _ _ _ _ _ r8 (by decide) k8 k e)
        have oh9 := own_move oh8 fun k e => mv k (n28 W8 _ _ _ _ _ _ oh8 (by decide) k8 k e)
        have os9 := own_move os8 fun k e => mv k (n28 W8 _ _ _ _ _ _ os8 (by decide) k8 k e)
        have uc9 : UsC ((W8.setCell ⟨w.heap.size, 2, none⟩ (.slice Ah hs.length ch)).setCell ⟨w.heap.size, 3, none⟩ (.slice As ss.length cs)) w.heap.size us ucc := UsC.move (w := wr) (fun k cur _ hc => (mv k (fun e => by
          have h9 := hc
          rw [e, kb] at h9
          cases h9)).trans ((hds.block k (by have := (Array.getElem?_eq_some_iff.1 hc).1; omega)).trans (hdh.block k (Array.getElem?_eq_some_iff.1 hc).1))) (UsM.all (Nat.le_refl _) um)
        generalize (W8.setCell ⟨w.heap.size, 2, none⟩ (.slice Ah hs.length ch)).setCell ⟨w.heap.size, 3, none⟩ (.slice As ss.length cs) = W9 at *
        have p0 : W9.cell? ⟨w.heap.size, 0, none⟩ = some (.int .i64 de) := by simp [World.cell?, k9]
        have p1 : W9.cell? ⟨w.heap.size, 1, none⟩ = some (.slice B1 us.length d1) := by simp [World.cell?, k9]
        have p2 : W9.cell? ⟨w.heap.size, 2, none⟩ = some (.slice Ah hs.length ch) := by simp [World.cell?, k9]
        have p3 : W9.cell? ⟨w.heap.size, 3, none⟩ = some (.slice As ss.length cs) := by simp [World.cell?, k9]
        have DC : Aside0 (DirC W9 w.heap.size ⟨de, us, hs, ss⟩ (.slice B1 us.length d1) (.slice Ah hs.length ch) (.slice As ss.length cs)) := ⟨⟨⟨ucc, r9, uc9⟩, oh9, os9⟩⟩
        have Q9 := Aside0.mk q9
        clear r9 uc9 oh9 os9 r8 oh8 os8 n28 mv k9 q9 k8 q8 k7 q7 hoh hos hdh hds y2 y3 y3' fy2 fy3 CS7
        go_wp2_with fail
        go_ret
        have bA := (Below.refl W9.heap.size W9).alloc (Nat.le_refl _) (.cells #[.int .i64 de, .slice B1 us.length d1, .slice Ah hs.length ch, .slice As ss.length cs] 47)
        exact (NB.out _ _).2 ⟨W9.heap.size, rfl, ⟨Q9.out.size, _, _, _, blk_new W9 _, DC.out.below bA⟩, Q9.out.alloc Q9.out.size _⟩
end Go.Proofs.YtadkeohohehmcaaGreatDoor.Top
end
section
/- Users and sessions are searched. -/
namespace Go.Proofs.YtadkeohohehmcaaGreatDoor.Top
open Go.RowKit Go.Proofs.YtadkeohohehmcaaGreatDoorW.PrintWords Go.Proofs.YtadkeohohehmcaaGreatDoorW.PrintLast Go.Proofs.YtadkeohohehmcaaGreatDoorW.PrintMore Go.Proofs.YtadkeohohehmcaaGreatDoor.PTop
set_option linter.unusedVariables false
set_option linter.unusedSimpArgs false
attribute [local go_sem] Oper.semAt_some
def cmpN (a b : ByteArray) : Int := Lib.compareBytes a.data.toList b.data.toList
theorem strcmp_c (a b : ByteArray) (w : World) : Calls Tryz.prog 70 #[.string a, .string b] w fun e w' => e = .returned (.int .i64 (cmpN a b)) ∧ w' = w := Any.strings_Compare Tryz.lays106 a b w
theorem intcmp_c (x y : Int) (w : World) : Calls Tryz.prog 49 #[.int .i64 x, .int .i64 y] w fun e w' => e = .returned (.int .i64 (Lib.compareInt x y)) ∧ w' = w := Any.cmp_Compare_int Tryz.lays122 x y w
set_option maxHeartbeats 1000000 in
set_option maxRecDepth 100000 in
theorem ucmp_c (nm s : ByteArray) (v : Value) (hv : v.oneCell' = true) (w : World) : Calls Tryz.prog 69 #[.agg #[.string nm, v], .string s] w fun e w' => e = .returned (.int .i64 (cmpN nm s)) ∧ Below w.heap.size w w' := by
  have SC := Aside0.mk (strcmp_c nm s)
  generalize cmpN nm s = r at *
  go_enter Tryz.func69, Tryz.ntmps69
  go_wp2_with (go_at_call 70; refine (SC.out _).mono ?_; rintro e w' ⟨rfl, rfl⟩)
  go_ret
  exact ⟨rfl, (Below.refl _ w).alloc (Nat.le_refl _) _⟩
set_option maxHeartbeats 1000000 in
set_option maxRecDepth 100000 in
theorem scmp_c (a b c d n : Int) (w : World) : Calls Tryz.prog 48 #[.agg #[.int .i64 a, .int .i64 b, .int .i64 c, .int .i64 d], .int .i64 n] w fun e w' => e = .returned (.int .i64 (Lib.compareInt a n)) ∧ Below w.heap.size w w' := by
  have SC := Aside0.mk (intcmp_c a n)
  generalize Lib.compareInt a n = r at *
  go_enter Tryz.func48, Tryz.ntmps48
  go_wp2_with (go_at_call 49; refine (SC.out _).mono ?_; rintro e w' ⟨rfl, rfl⟩)
  go_ret
  exact ⟨rfl, (Below.refl _ w).alloc (Nat.le_refl _) _⟩
/-- Where a target stands among n things of which c says what comes first. -/
structure Pos (n : Nat) (c : Nat → Int) (i : Nat) : Prop where
  le : i ≤ n
  lo : ∀ t, t < i → c t < 0
  hi : ∀ t, i ≤ t → t < n → 0 ≤ c t
def SrcPost (n : Nat) (c : Nat → Int) (w : World) (e : Ending) (w' : World) : Prop := ∃ i, Pos n c i ∧ e = .returned (.tuple #[.int .i64 (i : Int), .bool (decide (i < n) && decide (c i = 0))]) ∧ Below w.heap.size w w'
structure SrcL (n : Nat) (c : Nat → Int) (w wr : World) (s9 s10 : Value) (lo hi : Nat) : Prop where
  a : s9 = .int .i64 (lo : Int)
  b : s10 = .int .i64 (hi : Int)
  le : lo ≤ hi
  hn : hi ≤ n
  lo : ∀ t, t < lo → c t < 0
  hi : ∀ t, hi ≤ t → t < n → 0 ≤ c t
  below : Below w.heap.size w wr
set_option maxHeartbeats 4000000 in
set_option maxRecDepth 100000 in
theorem srcU (A : Option Addr) (cap n : Nat) (elem : Nat → List Value) (c : Nat → Int) (tv : Value) (htv : tv.oneCell' = true) (w : World) (hm : n ≤ 100000)
    (hA : 0 < n → ∃ b off, A = some ⟨b, off, none⟩ ∧ b < w.heap.size ∧ ∀ j, j < n → w.rangeAt b (off + j * 2) (elem j)) (hlen : ∀ j, j < n → (elem j).length = 2)
    (hcmp : ∀ j, j < n → ∀ W, Calls Tryz.prog 69 #[.agg (elem j).toArray, tv] W fun e w' => e = .returned (.int .i64 (c j)) ∧ Below W.heap.size W w')
    (hmono : ∀ a b, a ≤ b → b < n → c b < 0 → c a < 0) :
    Calls Tryz.prog 68 #[.slice A n cap, tv, .func (.func 69) #[] #[]] w fun e w' => SrcPost n c w e w' := by
  have HA := Aside0.mk hA
  have HL := Aside0.mk hlen
  have HC := Aside0.mk hcmp
  have HM := Aside0.mk hmono
  clear hA hlen hcmp hmono
  go_enter Tryz.func68, Tryz.ntmps68
  go_wp2_with fail
  go_loopg [9, 10] n (fun gg s9 s10 wr => ∃ lo hi : Nat, hi - lo ≤ gg ∧ Aside (SrcL n c w wr s9 s10 lo hi))
  case atStart => exact ⟨0, n, by omega, ⟨rfl, rfl, by omega, by omega, fun t ht => by omega, fun t h1 h2 => by omega, Below.refl _ _⟩⟩
  case round =>
    obtain ⟨lo, hi, hgg, L⟩ := hrel
    have LL := Aside0.mk L.out
    obtain rfl := LL.out.a
    obtain rfl := LL.out.b
    have hlh := LL.out.le
    have hhn := LL.out.hn
    clear L
    have qr := LL.out.below
    have hwr := qr.size
    by_cases hlt : lo < hi
    · have hlti : (lo : Int) < (hi : Int) := by omega
      obtain ⟨b, off, rfl, hbl, hrow⟩ := HA.out (by omega)
      obtain ⟨m, hm2⟩ : ∃ m, m = (lo + hi) / 2 := ⟨_, rfl⟩
      have hmn : m < n := by omega
      have hml : lo ≤ m := by omega
      have hmh : m < hi := by omega
      have rl : wr.rangeAt b (off + m * 2) (elem m) := range_same (hrow m hmn) (qr.block b hbl)
      have hi63 : (Tryz.prog.info? 63).map (·.size) = some (elem m).length := by rw [HL.out m hmn]; kernel_rfl
      have CC := Aside0.mk (HC.out m hmn)
      have hmid : ((lo : Int) + (hi : Int)) / 2 = (m : Int) := by omega
      have hwm : IntKind.i64.wrap ((m : Int) + 1) = (m : Int) + 1 := by simp [IntKind.wrap, IntKind.bits, IntKind.signed]; omega
      have hmi : (m : Int) < (n : Int) := by omega
      have hmg : (0 : Int) ≤ (m : Int) := by omega
      have HM2 := Aside0.mk hm2
      clear hrow hm2
      generalize elem m = xs at *
      by_cases hcm : c m < 0
      · have hlo2 : ∀ t, t < m + 1 → c t < 0 := fun t ht => HM.out t m (by omega) hmn hcm
        have HLO2 := Aside0.mk hlo2
        clear hlo2
        generalize hcv : c m = cv at *
        have hcx : cv < 0 := hcm
        clear hcv
        go_wp2_with (first | (refine wpList_load_mid rfl 63 (.tmp 27) rfl b (off + m * 2) rfl _ _ rl Tryz.underlying63 rfl hi63 ?_) | (go_at_call 69; refine (CC.out _).mono ?_; rintro e W2 ⟨rfl, hb2⟩))
        go_roundg (hi - (m + 1))
        case measure => omega
        case rel => exact ⟨m + 1, hi, Nat.le_refl _, ⟨by simp, rfl, by omega, hhn, HLO2.out, LL.out.hi, qr.trans (hb2.mono hwr)⟩⟩
      · have hhi2 : ∀ t, m ≤ t → t < n → 0 ≤ c t := fun t h1 h2 => Decidable.byContradiction fun h => hcm (HM.out m t h1 h2 (by omega))
        have HHI2 := Aside0.mk hhi2
        clear hhi2
        generalize hcv : c m = cv at *
        have hcx : ¬ cv < 0 := hcm
        clear hcv
        go_wp2_with (first | (refine wpList_load_mid rfl 63 (.tmp 27) rfl b (off + m * 2) rfl _ _ rl Tryz.underlying63 rfl hi63 ?_) | (go_at_call 69; refine (CC.out _).mono ?_; rintro e W2 ⟨rfl, hb2⟩))
        go_roundg (m - lo)
        case measure => omega
        case rel => exact ⟨lo, m, Nat.le_refl _, ⟨rfl, rfl, hml, by omega, LL.out.lo, HHI2.out, qr.trans (hb2.mono hwr)⟩⟩
    · obtain rfl : lo = hi := by omega
      have hlti : ¬ (lo : Int) < (lo : Int) := by omega
      have PP : Aside0 (Pos n c lo) := ⟨⟨hhn, LL.out.lo, LL.out.hi⟩⟩
      by_cases hln : lo < n
      · have hlni : (lo : Int) < (n : Int) := by omega
        have hlg : (0 : Int) ≤ (lo : Int) := by omega
        obtain ⟨b, off, rfl, hbl, hrow⟩ := HA.out (by omega)
        have rl : wr.rangeAt b (off + lo * 2) (elem lo) := range_same (hrow lo hln) (qr.block b hbl)
        have hi63 : (Tryz.prog.info? 63).map (·.size) = some (elem lo).length := by rw [HL.out lo hln]; kernel_rfl
        have CC := Aside0.mk (HC.out lo hln)
        have RR : Aside0 (∀ w', Below w.heap.size w w' → SrcPost n c w (.returned (.tuple #[.int .i64 (lo : Int), .bool (decide (c lo = 0))])) w') := ⟨fun w' hb => ⟨lo, PP.out, by rw [decide_eq_true hln, Bool.true_and], hb⟩⟩
        have LN := HL.out lo hln
        clear hrow LL
        generalize elem lo = xs at *
        generalize c lo = cv at *
        obtain ⟨y0, y1, rfl⟩ : ∃ y0 y1, xs = [y0, y1] := by
          match xs, LN with
          | [y0, y1], _ => exact ⟨y0, y1, rfl⟩
        have cy0 : wr.cell? ⟨b, off + lo * 2, none⟩ = some y0 := rl 0 _ rfl
        have cy1 : wr.cell? ⟨b, off + lo * 2 + 1, none⟩ = some y1 := rl 1 _ rfl
        clear rl hi63 LN
        by_cases hz : cv = 0
        · subst hz
          rw [decide_eq_true rfl] at RR
          go_wp2_with (first | (refine wpList_load_mid rfl 63 (.tmp 43) rfl b (off + lo * 2) rfl _ _ rl Tryz.underlying63 rfl hi63 ?_) | (go_at_call 69; refine (CC.out _).mono ?_; rintro e W2 ⟨rfl, hb2⟩))
          refine bodyPost_ret (results_tmp2 rfl _ _ _) rfl ?_
          exact RR.out _ (qr.trans (hb2.mono hwr))
        · rw [decide_eq_false hz] at RR
          have hze : (cv == 0) = false := beq_eq_false_iff_ne.2 hz
          go_wp2_with (first | (refine wpList_load_mid rfl 63 (.tmp 43) rfl b (off + lo * 2) rfl _ _ rl Tryz.underlying63 rfl hi63 ?_) | (go_at_call 69; refine (CC.out _).mono ?_; rintro e W2 ⟨rfl, hb2⟩))
          refine bodyPost_ret (results_tmp2 rfl _ _ _) rfl ?_
          exact RR.out _ (qr.trans (hb2.mono hwr))
      · have hlni : ¬ (lo : Int) < (n : Int) := by omega
        have RR : Aside0 (∀ w', Below w.heap.size w w' → SrcPost n c w (.returned (.tuple #[.int .i64 (lo : Int), .bool false])) w') := ⟨fun w' hb => ⟨lo, PP.out, by rw [decide_eq_false hln, Bool.false_and], hb⟩⟩
        clear LL
        go_wp2_with fail
        refine bodyPost_ret (results_tmp2 rfl _ _ _) rfl ?_
        exact RR.out _ qr
set_option maxHeartbeats 4000000 in
set_option maxRecDepth 100000 in
theorem srcS (A : Option Addr) (cap n : Nat) (elem : Nat → List Value) (c : Nat → Int) (tv : Value) (htv : tv.oneCell' = true) (w : World) (hm : n ≤ 100000)
    (hA : 0 < n → ∃ b off, A = some ⟨b, off, none⟩ ∧ b < w.heap.size ∧ ∀ j, j < n → w.rangeAt b (off + j * 4) (elem j)) (hlen : ∀ j, j < n → (elem j).length = 4)
    (hcmp : ∀ j, j < n → ∀ W, Calls Tryz.prog 48 #[.agg (elem j).toArray, tv] W fun e w' => e = .returned (.int .i64 (c j)) ∧ Below W.heap.size W w')
    (hmono : ∀ a b, a ≤ b → b < n → c b < 0 → c a < 0) :
    Calls Tryz.prog 47 #[.slice A n cap, tv, .func (.func 48) #[] #[]] w fun e w' => SrcPost n c w e w' := by
  have HA := Aside0.mk hA
  have HL := Aside0.mk hlen
  have HC := Aside0.mk hcmp
  have HM := Aside0.mk hmono
  clear hA hlen hcmp hmono
  go_enter Tryz.func47, Tryz.ntmps47
  go_wp2_with fail
  go_loopg [9, 10] n (fun gg s9 s10 wr => ∃ lo hi : Nat, hi - lo ≤ gg ∧ Aside (SrcL n c w wr s9 s10 lo hi))
  case atStart => exact ⟨0, n, by omega, ⟨rfl, rfl, by omega, by omega, fun t ht => by omega, fun t h1 h2 => by omega, Below.refl _ _⟩⟩
  case round =>
    obtain ⟨lo, hi, hgg, L⟩ := hrel
    have LL := Aside0.mk L.out
    obtain rfl := LL.out.a
    obtain rfl := LL.out.b
    have hlh := LL.out.le
    have hhn := LL.out.hn
    clear L
    have qr := LL.out.below
    have hwr := qr.size
    by_cases hlt : lo < hi
    · have hlti : (lo : Int) < (hi : Int) := by omega
      obtain ⟨b, off, rfl, hbl, hrow⟩ := HA.out (by omega)
      obtain ⟨m, hm2⟩ : ∃ m, m = (lo + hi) / 2 := ⟨_, rfl⟩
      have hmn : m < n := by omega
      have hml : lo ≤ m := by omega
      have hmh : m < hi := by omega
      have rl : wr.rangeAt b (off + m * 4) (elem m) := range_same (hrow m hmn) (qr.block b hbl)
      have hi63 : (Tryz.prog.info? 71).map (·.size) = some (elem m).length := by rw [HL.out m hmn]; kernel_rfl
      have CC := Aside0.mk (HC.out m hmn)
      have hmid : ((lo : Int) + (hi : Int)) / 2 = (m : Int) := by omega
      have hwm : IntKind.i64.wrap ((m : Int) + 1) = (m : Int) + 1 := by simp [IntKind.wrap, IntKind.bits, IntKind.signed]; omega
      have hmi : (m : Int) < (n : Int) := by omega
      have hmg : (0 : Int) ≤ (m : Int) := by omega
      have HM2 := Aside0.mk hm2
      clear hrow hm2
      generalize elem m = xs at *
      by_cases hcm : c m < 0
      · have hlo2 : ∀ t, t < m + 1 → c t < 0 := fun t ht => HM.out t m (by omega) hmn hcm
        have HLO2 := Aside0.mk hlo2
        clear hlo2
        generalize hcv : c m = cv at *
        have hcx : cv < 0 := hcm
        clear hcv
        go_wp2_with (first | (refine wpList_load_mid rfl 71 (.tmp 27) rfl b (off + m * 4) rfl _ _ rl Tryz.underlying71 rfl hi63 ?_) | (go_at_call 48; refine (CC.out _).mono ?_; rintro e W2 ⟨rfl, hb2⟩))
        go_roundg (hi - (m + 1))
        case measure => omega
        case rel => exact ⟨m + 1, hi, Nat.le_refl _, ⟨by simp, rfl, by omega, hhn, HLO2.out, LL.out.hi, qr.trans (hb2.mono hwr)⟩⟩
      · have hhi2 : ∀ t, m ≤ t → t < n → 0 ≤ c t := fun t h1 h2 => Decidable.byContradiction fun h => hcm (HM.out m t h1 h2 (by omega))
        have HHI2 := Aside0.mk hhi2
        clear hhi2
        generalize hcv : c m = cv at *
        have hcx : ¬ cv < 0 := hcm
        clear hcv
        go_wp2_with (first | (refine wpList_load_mid rfl 71 (.tmp 27) rfl b (off + m * 4) rfl _ _ rl Tryz.underlying71 rfl hi63 ?_) | (go_at_call 48; refine (CC.out _).mono ?_; rintro e W2 ⟨rfl, hb2⟩))
        go_roundg (m - lo)
        case measure => omega
        case rel => exact ⟨lo, m, Nat.le_refl _, ⟨rfl, rfl, hml, by omega, LL.out.lo, HHI2.out, qr.trans (hb2.mono hwr)⟩⟩
    · obtain rfl : lo = hi := by omega
      have hlti : ¬ (lo : Int) < (lo : Int) := by omega
      have PP : Aside0 (Pos n c lo) := ⟨⟨hhn, LL.out.lo, LL.out.hi⟩⟩
      by_cases hln : lo < n
      · have hlni : (lo : Int) < (n : Int) := by omega
        have hlg : (0 : Int) ≤ (lo : Int) := by omega
        obtain ⟨b, off, rfl, hbl, hrow⟩ := HA.out (by omega)
        have rl : wr.rangeAt b (off + lo * 4) (elem lo) := range_same (hrow lo hln) (qr.block b hbl)
        have hi63 : (Tryz.prog.info? 71).map (·.size) = some (elem lo).length := by rw [HL.out lo hln]; kernel_rfl
        have CC := Aside0.mk (HC.out lo hln)
        have RR : Aside0 (∀ w', Below w.heap.size w w' → SrcPost n c w (.returned (.tuple #[.int .i64 (lo : Int), .bool (decide (c lo = 0))])) w') := ⟨fun w' hb => ⟨lo, PP.out, by rw [decide_eq_true hln, Bool.true_and], hb⟩⟩
        have LN := HL.out lo hln
        clear hrow LL
        generalize elem lo = xs at *
        generalize c lo = cv at *
        obtain ⟨y0, y1, y2, y3, rfl⟩ : ∃ y0 y1 y2 y3, xs = [y0, y1, y2, y3] := by
          match xs, LN with
          | [y0, y1, y2, y3], _ => exact ⟨y0, y1, y2, y3, rfl⟩
        have cy0 : wr.cell? ⟨b, off + lo * 4, none⟩ = some y0 := rl 0 _ rfl
        have cy1 : wr.cell? ⟨b, off + lo * 4 + 1, none⟩ = some y1 := rl 1 _ rfl
        have cy2 : wr.cell? ⟨b, off + lo * 4 + 2, none⟩ = some y2 := rl 2 _ rfl
        have cy3 : wr.cell? ⟨b, off + lo * 4 + 3, none⟩ = some y3 := rl 3 _ rfl
        clear rl hi63 LN
        by_cases hz : cv = 0
        · subst hz
          rw [decide_eq_true rfl] at RR
          go_wp2_with (first | (refine wpList_load_mid rfl 71 (.tmp 43) rfl b (off + lo * 4) rfl _ _ rl Tryz.underlying71 rfl hi63 ?_) | (go_at_call 48; refine (CC.out _).mono ?_; rintro e W2 ⟨rfl, hb2⟩))
          refine bodyPost_ret (results_tmp2 rfl _ _ _) rfl ?_
          exact RR.out _ (qr.trans (hb2.mono hwr))
        · rw [decide_eq_false hz] at RR
          have hze : (cv == 0) = false := beq_eq_false_iff_ne.2 hz
          go_wp2_with (first | (refine wpList_load_mid rfl 71 (.tmp 43) rfl b (off + lo * 4) rfl _ _ rl Tryz.underlying71 rfl hi63 ?_) | (go_at_call 48; refine (CC.out _).mono ?_; rintro e W2 ⟨rfl, hb2⟩))
          refine bodyPost_ret (results_tmp2 rfl _ _ _) rfl ?_
          exact RR.out _ (qr.trans (hb2.mono hwr))
      · have hlni : ¬ (lo : Int) < (n : Int) := by omega
        have RR : Aside0 (∀ w', Below w.heap.size w w' → SrcPost n c w (.returned (.tuple #[.int .i64 (lo : Int), .bool false])) w') := ⟨fun w' hb => ⟨lo, PP.out, by rw [decide_eq_false hln, Bool.false_and], hb⟩⟩
        clear LL
        go_wp2_with fail
        refine bodyPost_ret (results_tmp2 rfl _ _ _) rfl ?_
        exact RR.out _ qr
end Go.Proofs.YtadkeohohehmcaaGreatDoor.Top
end
section
/- A user's and a session's place; a user's history. -/
namespace Go.Proofs.YtadkeohohehmcaaGreatDoor.Top
open Go.RowKit Go.Proofs.YtadkeohohehmcaaGreatDoorW.PrintWords Go.Proofs.YtadkeohohehmcaaGreatDoorW.PrintLast Go.Proofs.YtadkeohohehmcaaGreatDoorW.PrintMore Go.Proofs.YtadkeohohehmcaaGreatDoor.PTop
set_option linter.unusedVariables false
set_option linter.unusedSimpArgs false
attribute [local go_sem] Oper.semAt_some
def nameAt (us : List Usr) (t : Nat) : ByteArray := (us[t]?.map Usr.name).getD ⟨#[]⟩
def cliAt (ss : List Ses) (t : Nat) : Int := (ss[t]?.map Ses.c).getD 0
/-- Names that rise, as cmp says. -/
def Rise (us : List Usr) : Prop := ∀ nm a b, a ≤ b → b < us.length → cmpN (nameAt us b) nm < 0 → cmpN (nameAt us a) nm < 0
def UserPost (us : List Usr) (nm : ByteArray) (w : World) (e : Ending) (w' : World) : Prop := SrcPost us.length (fun t => cmpN (nameAt us t) nm) w e w'
def SessPost (ss : List Ses) (n : Int) (w : World) (e : Ending) (w' : World) : Prop := SrcPost ss.length (fun t => Lib.compareInt (cliAt ss t) n) w e w'
theorem SrcPost.lower {n : Nat} {c : Nat → Int} {w w1 : World} {e : Ending} {w' : World} (h : SrcPost n c w1 e w') (hb : Below w.heap.size w w1) : SrcPost n c w e w' := by
  obtain ⟨i, h1, h2, h3⟩ := h
  exact ⟨i, h1, h2, hb.trans (h3.mono hb.size)⟩
set_option maxHeartbeats 2000000 in
set_option maxRecDepth 100000 in
theorem user_c (us : List Usr) (nm : ByteArray) (wb : Nat) (w : World) (hu : UsAt w wb us) (hm : us.length ≤ 1000) (hr : Rise us) :
    Calls Tryz.prog 54 #[.pointer (some ⟨wb, 0, none⟩), .string nm] w fun e w' => UserPost us nm w e w' := by
  obtain ⟨x0, x1, x2, x3, uc, hwb, hrd, hus⟩ := hu.at_
  obtain ⟨A, c, rfl, hlc⟩ := Reads.form hrd
  have cw : w.cell? ⟨wb, 1, none⟩ = some (.slice A us.length c) := cell_in (l := [x0, .slice A us.length c, x2, x3]) hwb rfl
  obtain ⟨elem, hel⟩ : ∃ elem : Nat → List Value, ∀ t, t < us.length → ∃ v, elem t = [.string (nameAt us t), v] ∧ v.oneCell' = true ∧ uc[t * 2]? = some (.string (nameAt us t)) ∧ uc[t * 2 + 1]? = some v := by
    refine ⟨fun t => [.string (nameAt us t), uc[t * 2 + 1]?.getD undef], fun t ht => ?_⟩
    have hx : us[t]? = some us[t] := List.getElem?_eq_getElem ht
    obtain ⟨v, a, b, hv⟩ := hus.at_ t _ hx
    have e : nameAt us t = us[t].name := by unfold nameAt; rw [hx]; rfl
    obtain ⟨va, vc, rfl, _⟩ := Reads.form hv
    exact ⟨_, by dsimp only; rw [b]; rfl, rfl, by rw [e]; exact a, b⟩
  have SC : Aside0 (Calls Tryz.prog 68 #[.slice A us.length c, .string nm, .func (.func 69) #[] #[]] w fun e w' => UserPost us nm w e w') := ⟨by
    refine srcU A c us.length elem (fun t => cmpN (nameAt us t) nm) (.string nm) rfl w (by omega) (fun hp => ?_) (fun j hj => ?_) (fun j hj W => ?_) (hr nm)
    · rcases hrd.2 with ⟨_, h1⟩ | ⟨b, off, _, h1, _, h2⟩
      · omega
      · injection h1 with h1
        subst h1
        obtain ⟨v0, _, _, a0, _⟩ := hel 0 hp
        refine ⟨b, off, rfl, block_lt_of_cell (h2 _ _ a0), fun j hj k u hk => ?_⟩
        obtain ⟨v, e, _, a, b'⟩ := hel j hj
        rw [e] at hk
        have hl : k < 2 := (List.getElem?_eq_some_iff.1 hk).1
        rw [Nat.add_assoc]
        match k, hl with
        | 0, _ => rw [← hk]; exact h2 _ _ a
        | 1, _ => rw [← hk]; exact h2 _ _ b'
    · obtain ⟨v, e, _⟩ := hel j hj
      rw [e]; rfl
    · obtain ⟨v, e, hv, _⟩ := hel j hj
      rw [e]
      exact ucmp_c _ nm v hv W⟩
  have UP : Aside0 (∀ e w', UserPost us nm w e w' → ∃ (i : Nat) (f : Bool), e = .returned (.tuple #[.int .i64 (i : Int), .bool f])) := ⟨fun e w' h => by
    obtain ⟨i, _, h, _⟩ := h
    exact ⟨i, _, h⟩⟩
  clear hrd hus hel
  go_enter Tryz.func54, Tryz.ntmps54
  go_wp2_with (go_at_call 68; refine SC.out.mono ?_; intro e w' hp; obtain ⟨i, f, rfl⟩ := UP.out e w' hp; have HP := Aside0.mk hp; clear hp)
  refine bodyPost_ret (results_tmp2 rfl _ _ _) rfl ?_
  exact HP.out
set_option maxHeartbeats 2000000 in
set_option maxRecDepth 100000 in
theorem session_c (ss : List Ses) (n : Int) (wb : Nat) (w : World) (hs : ∃ x0 x1 x2 x3, w.heap[wb]? = some (.cells #[x0, x1, x2, x3] 47 (0, 0)) ∧ Reads w 4 x3 ss.length (ssC ss)) (hm : ss.length ≤ 1000)
    (hr : ∀ a b, a ≤ b → b < ss.length → Lib.compareInt (cliAt ss b) n < 0 → Lib.compareInt (cliAt ss a) n < 0) :
    Calls Tryz.prog 30 #[.pointer (some ⟨wb, 0, none⟩), .int .i64 n] w fun e w' => SessPost ss n w e w' := by
  obtain ⟨x0, x1, x2, x3, hwb, hrd⟩ := hs
  obtain ⟨A, c, rfl, hlc⟩ := Reads.form hrd
  have cw : w.cell? ⟨wb, 3, none⟩ = some (.slice A ss.length c) := cell_in (l := [x0, x1, x2, .slice A ss.length c]) hwb rfl
  have SC : Aside0 (Calls Tryz.prog 47 #[.slice A ss.length c, .int .i64 n, .func (.func 48) #[] #[]] w fun e w' => SessPost ss n w e w') := ⟨by
    refine srcS A c ss.length (fun t => (ss[t]?.map scells).getD [undef, undef, undef, undef]) (fun t => Lib.compareInt (cliAt ss t) n) (.int .i64 n) rfl w (by omega) (fun hp => ?_) (fun j hj => ?_) (fun j hj W => ?_) hr
    · rcases hrd.2 with ⟨_, h1⟩ | ⟨b, off, _, h1, _, h2⟩
      · omega
      · injection h1 with h1
        subst h1
        have h0 : ss[0]? = some ss[0] := List.getElem?_eq_getElem hp
        refine ⟨b, off, rfl, block_lt_of_cell (h2 _ _ (ssC_at ss 0 _ h0 0 _ rfl)), fun j hj k u hk => ?_⟩
        have hx : ss[j]? = some ss[j] := List.getElem?_eq_getElem hj
        rw [hx] at hk
        rw [Nat.add_assoc]
        exact h2 _ _ (ssC_at ss j _ hx k u hk)
    · rw [List.getElem?_eq_getElem hj]; rfl
    · have hx : ss[j]? = some ss[j] := List.getElem?_eq_getElem hj
      have e : cliAt ss j = ss[j].c := by unfold cliAt; rw [hx]; rfl
      rw [hx, e]
      exact scmp_c _ _ _ _ n W⟩
  have UP : Aside0 (∀ e w', SessPost ss n w e w' → ∃ (i : Nat) (f : Bool), e = .returned (.tuple #[.int .i64 (i : Int), .bool f])) := ⟨fun e w' h => by
    obtain ⟨i, _, h, _⟩ := h
    exact ⟨i, _, h⟩⟩
  clear hrd
  go_enter Tryz.func30, Tryz.ntmps30
  go_wp2_with (go_at_call 47; refine SC.out.mono ?_; intro e w' hp; obtain ⟨i, f, rfl⟩ := UP.out e w' hp; have HP := Aside0.mk hp; clear hp)
  refine bodyPost_ret (results_tmp2 rfl _ _ _) rfl ?_
  exact HP.out
/-- What history answers: the versions of the user that is there, or none. -/
def histF (us : List Usr) (i : Nat) (nm : ByteArray) : List S68 := if i < us.length ∧ cmpN (nameAt us i) nm = 0 then (us[i]?.map Usr.vs).getD [] else []
def HistPost (us : List Usr) (nm : ByteArray) (w : World) (e : Ending) (w' : World) : Prop :=
  ∃ i v, Pos us.length (fun t => cmpN (nameAt us t) nm) i ∧ e = .returned v ∧ Vs w' v (histF us i nm) ∧ Below w.heap.size w w'
set_option maxHeartbeats 2000000 in
set_option maxRecDepth 100000 in
theorem history_c (us : List Usr) (nm : ByteArray) (wb : Nat) (w : World) (hu : UsAt w wb us) (hm : us.length ≤ 1000) (hr : Rise us) :
    Calls Tryz.prog 53 #[.pointer (some ⟨wb, 0, none⟩), .string nm] w fun e w' => HistPost us nm w e w' := by
  have UC := Aside0.mk (user_c us nm wb w hu hm hr)
  obtain ⟨x0, x1, x2, x3, uc, hwb, hrd, hus⟩ := hu.at_
  obtain ⟨A, c, rfl, hlc⟩ := Reads.form hrd
  have hwl := (Array.getElem?_eq_some_iff.1 hwb).1
  have HWB := Aside0.mk hwb
  have HRD := Aside0.mk hrd
  have HUS := Aside0.mk hus
  clear hu hwb hrd hus
  go_enter Tryz.func53, Tryz.ntmps53
  go_upto_region 2 with (go_at_call 54; refine UC.out.mono ?_; rintro e W1 ⟨i, P, rfl, hb⟩; refine Aside0.out ?_)
  refine ⟨?_⟩
  have PP := Aside0.mk P
  clear P
  by_cases hin : i < us.length
  · rw [decide_eq_true hin, Bool.true_and]
    by_cases hz : cmpN (nameAt us i) nm = 0
    · have hx : us[i]? = some us[i] := List.getElem?_eq_getElem hin
      have HF : Aside0 (histF us i nm = us[i].vs) := ⟨by unfold histF; rw [if_pos ⟨hin, hz⟩, hx]; rfl⟩
      obtain ⟨v, a, b, hv⟩ := HUS.out.at_ i _ hx
      obtain ⟨bb, off, rfl, hcs⟩ : ∃ b off, A = some ⟨b, off, none⟩ ∧ ∀ j u, uc[j]? = some u → w.cell? ⟨b, off + j, none⟩ = some u := by
        rcases HRD.out.2 with ⟨_, h1⟩ | ⟨b, off, _, h1, _, h2⟩
        · omega
        · injection h1 with h1
          exact ⟨b, off, h1, h2⟩
      have a1 := hcs _ _ b
      have hbl := block_lt_of_cell a1
      obtain ⟨va, vc, rfl, _⟩ := Reads.form hv
      have c2 : W1.cell? ⟨bb, off + i * 2 + 1, none⟩ = some (.slice va us[i].vs.length vc) := by rw [Nat.add_assoc]; exact (World.cell?_of_block (w := w) (hb.block bb hbl)).trans a1
      have cw : W1.cell? ⟨wb, 1, none⟩ = some (.slice (some ⟨bb, off, none⟩) us.length c) := cell_in (l := [x0, .slice (some ⟨bb, off, none⟩) us.length c, x2, x3]) ((hb.block wb hwl).trans HWB.out) rfl
      have HVV : Aside0 (Vs W1 (.slice va us[i].vs.length vc) us[i].vs) := ⟨Reads.below hv hb⟩
      have hi0 : (i : Int) < (us.length : Int) := by omega
      have hge : (0 : Int) ≤ (i : Int) := by omega
      rw [decide_eq_true hz]
      have HPP : Aside0 (∀ v w', Vs w' v us[i].vs → Below w.heap.size w w' → HistPost us nm w (.returned v) w') := ⟨fun v w' h1 h2 => ⟨i, v, PP.out, rfl, by rw [HF.out]; exact h1, h2⟩⟩
      clear a b hv hcs a1 hx HF hz
      go_wp2_with fail
      go_ret
      exact HPP.out _ _ HVV.out hb
    · rw [decide_eq_false hz]
      have HF : Aside0 (histF us i nm = []) := ⟨by unfold histF; rw [if_neg (fun h => hz h.2)]⟩
      go_wp2_with fail
      go_ret
      exact ⟨i, _, PP.out, rfl, by rw [HF.out]; exact ⟨rfl, Or.inl ⟨rfl, rfl⟩⟩, hb⟩
  · rw [decide_eq_false hin, Bool.false_and]
    have HF : Aside0 (histF us i nm = []) := ⟨by unfold histF; rw [if_neg (fun h => hin h.1)]⟩
    go_wp2_with fail
    go_ret
    exact ⟨i, _, PP.out, rfl, by rw [HF.out]; exact ⟨rfl, Or.inl ⟨rfl, rfl⟩⟩, hb⟩
end Go.Proofs.YtadkeohohehmcaaGreatDoor.Top
end
