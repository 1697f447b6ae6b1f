/- Several texts in one. -/
import Derived.Test.YtadkeohohehmcaaGreatDoorInA
import Derived.Test.YtadkeohohehmcaaGreatDoorBeA
import Derived.Test.YtadkeohohehmcaaGreatDoorVeA
section
/- A command; what adding a version makes of a directory. -/
namespace Go.Proofs.YtadkeohohehmcaaGreatDoor.Top
open Go.RowKit Go.Proofs.YtadkeohohehmcaaGreatDoorW.PrintWords Go.Proofs.YtadkeohohehmcaaGreatDoorW.PrintLast Go.Proofs.YtadkeohohehmcaaGreatDoorW.PrintMore Go.Proofs.YtadkeohohehmcaaGreatDoor.PTop
set_option linter.unusedVariables false
set_option linter.unusedSimpArgs false
structure Cmd where
  k : Int
  c : Int
  s : Int
  u : ByteArray
  key : ByteArray
  e : Int
  root : List Int
def ccells (c : Cmd) : List Value := [.int .i64 c.k, .int .i64 c.c, .int .i64 c.s, .string c.u, .string c.key, .int .i64 c.e] ++ c.root.map (Value.int .u8)
theorem Pos.uniq {n : Nat} {c : Nat → Int} {i j : Nat} (h : Pos n c i) (k : Pos n c j) : i = j := by
  have a := h.le
  have b := k.le
  rcases Nat.lt_trichotomy i j with hl | hl | hl
  · have := k.lo i hl
    have := h.hi i (Nat.le_refl _) (by omega)
    omega
  · exact hl
  · have := h.lo j hl
    have := k.hi j (Nat.le_refl _) (by omega)
    omega
theorem Pos.ex (c : Nat → Int) : ∀ n : Nat, (∀ a b, a ≤ b → b < n → c b < 0 → c a < 0) → ∃ i, Pos n c i
  | 0, _ => ⟨0, Nat.le_refl _, fun t h => absurd h (by omega), fun t _ h => absurd h (by omega)⟩
  | n + 1, h => by
    obtain ⟨i, hi⟩ := Pos.ex c n fun a b h1 h2 => h a b h1 (by omega)
    by_cases hn : c n < 0
    · exact ⟨n + 1, Nat.le_refl _, fun t ht => h t n (by omega) (by omega) hn, fun t h1 h2 => absurd h1 (by omega)⟩
    · refine ⟨i, by have := hi.le; omega, hi.lo, fun t h1 h2 => ?_⟩
      rcases Nat.lt_or_ge t n with h3 | h3
      · exact hi.hi t h1 h3
      · obtain rfl : t = n := by omega
        omega
/-- The version that is added. -/
def cmdX (d : Dir) (c : Cmd) : S68 := ⟨d.e + 1, c.k, c.key⟩
def there (us : List Usr) (i : Nat) (nm : ByteArray) : Prop := i < us.length ∧ cmpN (nameAt us i) nm = 0
instance (us : List Usr) (i : Nat) (nm : ByteArray) : Decidable (there us i nm) := by unfold there; infer_instance
def addCode (d : Dir) (c : Cmd) (i : Nat) : Int :=
  if d.e = 200 then 2 else if nextF (histF d.us i c.u) (cmdX d c) ≠ 0 then nextF (histF d.us i c.u) (cmdX d c) else if there d.us i c.u then 0 else if d.us.length = 64 then 2 else 0
def addUs (us : List Usr) (x : S68) (i : Nat) (nm : ByteArray) : List Usr := if there us i nm then us.set i ⟨nameAt us i, histF us i nm ++ [x]⟩ else us.take i ++ [⟨nm, histF us i nm ++ [x]⟩] ++ us.drop i
def addD (d : Dir) (c : Cmd) (i : Nat) : Dir := if addCode d c i = 0 then ⟨d.e, addUs d.us (cmdX d c) i c.u, d.hs, d.ss⟩ else d
theorem UsC.at_ {w : World} {base : Nat} : ∀ {us : List Usr} {cs : List Value} (i : Nat) (u : Usr), UsC w base us cs → us[i]? = some u → ∃ v, cs[i * 2]? = some (.string u.name) ∧ cs[i * 2 + 1]? = some v ∧ w.ownsRow base 68 3 v u.vs.length (vsC u.vs)
  | [], _, i, u, _, h => by simp at h
  | x :: us, cs, 0, u, ⟨v, r, h1, h2, h3⟩, h => by
    obtain rfl : x = u := by simpa using h
    subst h1
    exact ⟨v, rfl, rfl, h2⟩
  | x :: us, cs, i + 1, u, ⟨v, r, h1, h2, h3⟩, h => by
    obtain ⟨v', a, b, c⟩ := UsC.at_ i u h3 (by simpa using h)
    subst h1
    refine ⟨v', ?_, ?_, c⟩
    · rw [show (i + 1) * 2 = i * 2 + 1 + 1 by omega, List.getElem?_cons_succ, List.getElem?_cons_succ]; exact a
    · rw [show (i + 1) * 2 + 1 = i * 2 + 1 + 1 + 1 by omega, List.getElem?_cons_succ, List.getElem?_cons_succ]; exact b
theorem UsC.set {w : World} {base : Nat} {v' : Value} {vs' : List S68} (hv : w.ownsRow base 68 3 v' vs'.length (vsC vs')) : ∀ {us : List Usr} {cs : List Value} (i : Nat) (u : Usr), UsC w base us cs → us[i]? = some u → UsC w base (us.set i ⟨u.name, vs'⟩) (cs.set (i * 2 + 1) v')
  | [], _, i, u, _, h => by simp at h
  | x :: us, cs, 0, u, ⟨v, r, h1, h2, h3⟩, h => by
    obtain rfl : x = u := by simpa using h
    subst h1
    exact ⟨v', r, rfl, hv, h3⟩
  | x :: us, cs, i + 1, u, ⟨v, r, h1, h2, h3⟩, h => by
    have := UsC.set hv i u h3 (by simpa using h)
    subst h1
    rw [show (i + 1) * 2 + 1 = i * 2 + 1 + 1 + 1 by omega]
    exact ⟨v, _, rfl, h2, this⟩
theorem UsC.len {w : World} {base : Nat} : ∀ {us : List Usr} {cs : List Value}, UsC w base us cs → cs.length = us.length * 2
  | [], _, h => by rw [UsC] at h; subst h; rfl
  | x :: us, cs, ⟨v, r, h1, h2, h3⟩ => by
    subst h1
    have := UsC.len h3
    simp only [List.length_cons]
    omega
theorem UsC.one {w : World} {base : Nat} : ∀ {us : List Usr} {cs : List Value}, UsC w base us cs → ∀ u ∈ cs, u.oneCell' = true
  | [], _, h => by rw [UsC] at h; subst h; intro u hu; cases hu
  | x :: us, cs, ⟨v, r, h1, h2, h3⟩ => by
    subst h1
    intro u hu
    obtain ⟨A, c, rfl, _⟩ := (Reads.of_own h2).form
    rcases List.mem_cons.1 hu with rfl | hu
    · rfl
    · rcases List.mem_cons.1 hu with rfl | hu
      · rfl
      · exact UsC.one h3 u hu
theorem UsC.ins {w : World} {base : Nat} {v' : Value} {nm : ByteArray} {vs' : List S68} (hv : w.ownsRow base 68 3 v' vs'.length (vsC vs')) : ∀ {us : List Usr} {cs : List Value} (i : Nat), UsC w base us cs → i ≤ us.length → UsC w base (us.take i ++ [⟨nm, vs'⟩] ++ us.drop i) (insF 2 i cs [.string nm, v'])
  | us, cs, 0, h, _ => by
    unfold insF
    rw [Nat.zero_mul]
    exact ⟨v', cs, by simp, hv, by simpa using h⟩
  | [], cs, i + 1, h, hl => by simp at hl
  | x :: us, cs, i + 1, ⟨v, r, h1, h2, h3⟩, hl => by
    have := UsC.ins (nm := nm) hv i h3 (by simpa using hl)
    subst h1
    refine ⟨v, insF 2 i r [.string nm, v'], ?_, h2, ?_⟩
    · unfold insF
      rw [show (i + 1) * 2 = i * 2 + 1 + 1 by omega, List.take_succ_cons, List.take_succ_cons, List.drop_succ_cons, List.drop_succ_cons]
      rfl
    · simpa using this
/-- A directory of rows of one's own, at other work. -/
theorem DirC.usAt {w : World} {wb n0 : Nat} {d : Dir} {x0 x1 x2 x3 : Value} (h : DirC w n0 d x1 x2 x3) (hb : w.heap[wb]? = some (.cells #[x0, x1, x2, x3] 47 (0, 0))) : UsAt w wb d.us := by
  obtain ⟨⟨uc, a, b⟩, _⟩ := h
  exact ⟨x0, x1, x2, x3, uc, hb, Reads.of_own a, UsR.of b⟩
structure AddPost (d : Dir) (c : Cmd) (n0 wb : Nat) (x2 x3 : Value) (w : World) (e : Ending) (w' : World) : Prop where
  out : ∃ i x1', Pos d.us.length (fun t => cmpN (nameAt d.us t) c.u) i ∧ e = .returned (.int .i64 (addCode d c i)) ∧ w'.heap[wb]? = some (.cells #[.int .i64 d.e, x1', x2, x3] 47 (0, 0)) ∧ DirC w' n0 (addD d c i) x1' x2 x3 ∧ Below n0 w w'
/-- What a command that adds asks. -/
structure AddOk (d : Dir) (c : Cmd) : Prop where
  len : d.us.length ≤ 64
  rise : Rise d.us
  lo : 0 ≤ d.e
  hi : d.e ≤ 200
  kl : 1 ≤ c.k
  kh : c.k ≤ 3
  may : d.e ≠ 200 → mayB (cmdX d c) = true
  us : ∀ u ∈ d.us, CheckOk u.vs ∧ (lastF u.vs).f0 ≤ d.e + 1
theorem AddOk.rise' {d : Dir} {c : Cmd} (h : AddOk d c) : ∀ a b, a ≤ b → b < d.us.length → cmpN (nameAt d.us b) c.u < 0 → cmpN (nameAt d.us a) c.u < 0 := h.rise c.u
theorem histF_ok {d : Dir} {c : Cmd} (h : AddOk d c) (i : Nat) : CheckOk (histF d.us i c.u) ∧ (lastF (histF d.us i c.u)).f0 ≤ d.e + 1 := by
  unfold histF
  split
  · rename_i hi
    rw [List.getElem?_eq_getElem hi.1]
    exact h.us _ (List.getElem_mem hi.1)
  · refine ⟨⟨by simp, fun i x hx => by simp at hx⟩, ?_⟩
    have := h.lo
    show (0 : Int) ≤ _
    omega
end Go.Proofs.YtadkeohohehmcaaGreatDoor.Top
end
section
/- A version is added. -/
namespace Go.Proofs.YtadkeohohehmcaaGreatDoor.Top
open Go.RowKit Go.Proofs.YtadkeohohehmcaaGreatDoorW.PrintWords Go.Proofs.YtadkeohohehmcaaGreatDoorW.PrintLast Go.Proofs.YtadkeohohehmcaaGreatDoorW.PrintMore Go.Proofs.YtadkeohohehmcaaGreatDoor.PTop
set_option linter.unusedVariables false
set_option linter.unusedSimpArgs false
attribute [local go_sem] Oper.semAt_some
set_option maxHeartbeats 8000000 in
set_option maxRecDepth 100000 in
theorem add_c (d : Dir) (c : Cmd) (wb n0 : Nat) (A : Array Value) (x1 x2 x3 : Value) (w : World) (hA : A.toList = ccells c) (hb : w.heap[wb]? = some (.cells #[.int .i64 d.e, x1, x2, x3] 47 (0, 0))) (hd : DirC w n0 d x1 x2 x3) (hn0 : n0 ≤ wb) (ok : AddOk d c) :
    Calls Tryz.prog 32 #[.pointer (some ⟨wb, 0, none⟩), .agg A] w fun e w' => AddPost d c n0 wb x2 x3 w e w' := by
  have AP : Aside0 (∀ (i : Nat) (x1' : Value) (w' : World), Pos d.us.length (fun t => cmpN (nameAt d.us t) c.u) i → w'.heap[wb]? = some (.cells #[.int .i64 d.e, x1', x2, x3] 47 (0, 0)) → DirC w' n0 (addD d c i) x1' x2 x3 → Below n0 w w' → AddPost d c n0 wb x2 x3 w (.returned (.int .i64 (addCode d c i))) w') := ⟨fun i x1' w' a b e f => ⟨i, x1', a, rfl, b, e, f⟩⟩
  have hwl := (Array.getElem?_eq_some_iff.1 hb).1
  have HD := Aside0.mk hd
  have HB := Aside0.mk hb
  have UA : Aside0 (∀ W, Below w.heap.size w W → UsAt W wb d.us) := ⟨fun W hW => UsAt.below (DirC.usAt hd hb) hW⟩
  have OK := Aside0.mk ok
  have HC : Aside0 (∀ W, Below w.heap.size w W → Calls Tryz.prog 53 #[.pointer (some ⟨wb, 0, none⟩), .string c.u] W fun e w' => HistPost d.us c.u W e w') := ⟨fun W hW => history_c d.us c.u wb W (UA.out W hW) (by have := ok.len; omega) ok.rise⟩
  have UC : Aside0 (∀ W, Below w.heap.size w W → Calls Tryz.prog 54 #[.pointer (some ⟨wb, 0, none⟩), .string c.u] W fun e w' => UserPost d.us c.u W e w') := ⟨fun W hW => user_c d.us c.u wb W (UA.out W hW) (by have := ok.len; omega) ok.rise⟩
  have NC : Aside0 (d.e ≠ 200 → ∀ (v : Value) (i : Nat) (W : World), Vs W v (histF d.us i c.u) → Calls Tryz.prog 52 #[v, .agg #[.int .i64 (d.e + 1), .int .i64 c.k, .string c.key]] W fun e w' => NextPost (histF d.us i c.u) (cmdX d c) W e w') := ⟨fun h200 v i W hv => next_c v _ (cmdX d c) W hv (histF_ok ok i).1 (ok.may h200) (histF_ok ok i).2⟩
  obtain ⟨uc, hu1, hu2⟩ := hd.1
  obtain ⟨XA, xc, rfl, hxc⟩ := (Reads.of_own hu1).form
  have HU1 := Aside0.mk hu1
  have HU2 := Aside0.mk hu2
  have hlo := ok.lo
  have hhi := ok.hi
  have hkl := ok.kl
  have hkh := ok.kh
  have hul := ok.len
  have hwe : IntKind.i64.wrap (d.e + 1) = d.e + 1 := by simp [IntKind.wrap, IntKind.bits, IntKind.signed]; omega
  have hwk1 : IntKind.i64.wrap (c.k - 1) = c.k - 1 := by simp [IntKind.wrap, IntKind.bits, IntKind.signed]; omega
  have hwk2 : IntKind.i64.wrap c.k = c.k := by simp [IntKind.wrap, IntKind.bits, IntKind.signed]; omega
  have hwk3 : IntKind.i64.wrap (c.k - 1 + 1) = c.k := by simp [IntKind.wrap, IntKind.bits, IntKind.signed]; omega
  obtain ⟨W0, hW0⟩ : ∃ W0, w.alloc (.cells A 41) = W0 := ⟨_, rfl⟩
  have b0 : Below w.heap.size w W0 := by rw [← hW0]; exact (Below.refl _ w).alloc (Nat.le_refl _) _
  have s0 : W0.heap.size = w.heap.size + 1 := by rw [← hW0]; simp
  have k0 : W0.heap[w.heap.size]? = some (.cells A 41 (0, 0)) := by rw [← hW0]; exact blk_new w _
  have hAa : A = (ccells c).toArray := by rw [← hA]
  have c0 : W0.cell? ⟨w.heap.size, 0, none⟩ = some (.int .i64 c.k) := cell_in (l := ccells c) (by rw [← hAa]; exact k0) rfl
  have c3 : W0.cell? ⟨w.heap.size, 3, none⟩ = some (.string c.u) := cell_in (l := ccells c) (by rw [← hAa]; exact k0) rfl
  have c4 : W0.cell? ⟨w.heap.size, 4, none⟩ = some (.string c.key) := cell_in (l := ccells c) (by rw [← hAa]; exact k0) rfl
  have kb0 := (b0.block wb hwl).trans hb
  have cw : W0.cell? ⟨wb, 0, none⟩ = some (.int .i64 d.e) := by simp [World.cell?, kb0]
  have HW0 := Aside0.mk hW0
  have hwl0 : wb < W0.heap.size := by omega
  have hxl0 : w.heap.size < W0.heap.size := by omega
  have KP : Aside0 (∀ W, Below W0.heap.size W0 W → W.cell? ⟨wb, 0, none⟩ = some (.int .i64 d.e) ∧ W.cell? ⟨w.heap.size, 3, none⟩ = some (.string c.u) ∧ W.cell? ⟨w.heap.size, 4, none⟩ = some (.string c.key)) := ⟨fun W hW => ⟨(hW.cell (p := ⟨wb, 0, none⟩) hwl0).trans cw, (hW.cell (p := ⟨w.heap.size, 3, none⟩) hxl0).trans c3, (hW.cell (p := ⟨w.heap.size, 4, none⟩) hxl0).trans c4⟩⟩
  have B0 := Aside0.mk b0
  have K41 := Aside0.mk k0
  have HS := Aside0.mk s0
  have WN : Aside0 (w.heap.size + 0 = w.heap.size) := ⟨rfl⟩
  have hnw : n0 ≤ w.heap.size := by omega
  obtain ⟨xb, hxb⟩ : ∃ xb, w.heap.size = xb := ⟨_, rfl⟩
  have HXB := Aside0.mk hxb
  rw [hxb] at c0 c3 c4 KP hxl0 hnw K41
  clear hd hb ok hu1 hu2 hW0 b0 k0 hA hAa kb0 hxb s0
  go_enter Tryz.func32, Tryz.ntmps32
  go_upto_region 1 with fail
  rw [HW0.out, HXB.out]
  by_cases h200 : d.e = 200
  · have hac : Aside0 (∀ i, addCode d c i = 2 ∧ addD d c i = d) := ⟨fun i => by
      have e : addCode d c i = 2 := by unfold addCode; rw [if_pos h200]
      refine ⟨e, ?_⟩
      unfold addD
      rw [e]
      exact if_neg (by decide)⟩
    have ex : Aside0 (∃ i, Pos d.us.length (fun t => cmpN (nameAt d.us t) c.u) i) := ⟨Pos.ex _ _ OK.out.rise'⟩
    have BB := Aside0.mk ((B0.out.mono (by have := HXB.out; omega)) : Below n0 w W0)
    have KB := Aside0.mk ((B0.out.block wb hwl).trans HB.out)
    have DD := Aside0.mk (DirC.below HD.out B0.out)
    clear hwl
    go_wp2_with fail
    go_ret
    obtain ⟨i, hi⟩ := ex.out
    have := AP.out i _ W0 hi KB.out (by rw [(hac.out i).2]; exact DD.out) BB.out
    rw [(hac.out i).1] at this
    exact this
  go_upto_region 4 with fail
  have C3 := Aside0.mk (HC.out W0.drew B0.out.drew)
  refine wp_region_held_drew (S := (fun W => W.cell? ⟨wb, 0, none⟩ = some (.int .i64 d.e) ∧ W.cell? ⟨xb, 3, none⟩ = some (.string c.u) ∧ W.cell? ⟨xb, 4, none⟩ = some (.string c.key))) (by kernel_rfl) (by exact KP.out W0 (Below.refl _ _)) (fun hHeld => ?_)
  refine wpAnyH_take (i := 0) (oi := _) (v := ?_) rfl (by kernel_rfl) (by kernel_rfl) (by kernel_rfl) (fun _ _ _ h => h) (Or.inl ⟨by rfl, ?_⟩) (by assumption) ?_
  rotate_left
  · (intro w hSw; (try dsimp only at hSw); obtain ⟨s1_, s2_, s3_⟩ := hSw; go_simp; (try with_reducible rfl))
  (try simp only [uA, uB, uC, uD, uE, uF, uG, uH])
  refine wpAnyH_take (i := 1) (oi := _) (v := ?_) rfl (by kernel_rfl) (by kernel_rfl) (by kernel_rfl) (fun _ _ _ h => h) (Or.inl ⟨by rfl, ?_⟩) (by assumption) ?_
  rotate_left
  · (intro w hSw; (try dsimp only at hSw); obtain ⟨s1_, s2_, s3_⟩ := hSw; go_simp; (try with_reducible rfl))
  (try simp only [uA, uB, uC, uD, uE, uF, uG, uH])
  refine wpAnyH_take (i := 2) (oi := _) (v := ?_) rfl (by kernel_rfl) (by kernel_rfl) (by kernel_rfl) (fun _ _ _ h => h) (Or.inl ⟨by rfl, ?_⟩) (by assumption) ?_
  rotate_left
  · (intro w hSw; (try dsimp only at hSw); obtain ⟨s1_, s2_, s3_⟩ := hSw; go_simp; (try with_reducible rfl))
  (try simp only [uA, uB, uC, uD, uE, uF, uG, uH])
  refine wpAnyH_take (i := 4) (oi := _) (v := ?_) rfl (by kernel_rfl) (by kernel_rfl) (by kernel_rfl) (fun _ _ _ h => h) (Or.inl ⟨by rfl, ?_⟩) (by assumption) ?_
  rotate_left
  · (intro w hSw; (try dsimp only at hSw); obtain ⟨s1_, s2_, s3_⟩ := hSw; go_simp; (try with_reducible rfl))
  (try simp only [uA, uB, uC, uD, uE, uF, uG, uH])
  refine wpAnyH_take (i := 5) (oi := _) (v := ?_) rfl (by kernel_rfl) (by kernel_rfl) (by kernel_rfl) (fun _ _ _ h => h) (Or.inl ⟨by rfl, ?_⟩) (by assumption) ?_
  rotate_left
  · (intro w hSw; (try dsimp only at hSw); obtain ⟨s1_, s2_, s3_⟩ := hSw; go_simp; (try with_reducible rfl))
  (try simp only [uA, uB, uC, uD, uE, uF, uG, uH])
  refine wpAnyH_take (i := 6) (oi := _) (v := ?_) rfl (by kernel_rfl) (by kernel_rfl) (by kernel_rfl) (fun _ _ _ h => h) (Or.inl ⟨by rfl, ?_⟩) (by assumption) ?_
  rotate_left
  · (intro w hSw; (try dsimp only at hSw); obtain ⟨s1_, s2_, s3_⟩ := hSw; go_simp; (try with_reducible rfl))
  (try simp only [uA, uB, uC, uD, uE, uF, uG, uH])
  refine wpAnyH_take (i := 7) (oi := _) (v := ?_) rfl (by kernel_rfl) (by kernel_rfl) (by kernel_rfl) (fun _ _ _ h => h) (Or.inl ⟨by rfl, ?_⟩) (by assumption) ?_
  rotate_left
  · (intro w hSw; (try dsimp only at hSw); obtain ⟨s1_, s2_, s3_⟩ := hSw; go_simp; (try with_reducible rfl))
  (try simp only [uA, uB, uC, uD, uE, uF, uG, uH])
  refine wpAnyH_take (i := 8) (oi := _) (v := ?_) rfl (by kernel_rfl) (by kernel_rfl) (by kernel_rfl) (fun _ _ _ h => h) (Or.inl ⟨by rfl, ?_⟩) (by assumption) ?_
  rotate_left
  · (intro w hSw; (try dsimp only at hSw); obtain ⟨s1_, s2_, s3_⟩ := hSw; go_simp; (try with_reducible rfl))
  (try simp only [uA, uB, uC, uD, uE, uF, uG, uH])
  refine wpAnyH_take (i := 9) (oi := _) (v := ?_) rfl (by kernel_rfl) (by kernel_rfl) (by kernel_rfl) (fun _ _ _ h => h) (Or.inl ⟨by rfl, ?_⟩) (by assumption) ?_
  rotate_left
  · (intro w hSw; (try dsimp only at hSw); obtain ⟨s1_, s2_, s3_⟩ := hSw; go_simp; (try with_reducible rfl))
  (try simp only [uA, uB, uC, uD, uE, uF, uG, uH])
  refine wpAnyH_take (i := 10) (oi := _) (v := ?_) rfl (by kernel_rfl) (by kernel_rfl) (by kernel_rfl) (fun _ _ _ h => h) (Or.inl ⟨by rfl, ?_⟩) (by assumption) ?_
  rotate_left
  · (intro w hSw; (try dsimp only at hSw); obtain ⟨s1_, s2_, s3_⟩ := hSw; go_simp; (try with_reducible rfl))
  (try simp only [uA, uB, uC, uD, uE, uF, uG, uH])
  refine wpAnyH_take (i := 11) (oi := _) (v := ?_) rfl (by kernel_rfl) (by kernel_rfl) (by kernel_rfl) (fun _ _ _ h => h) (Or.inl ⟨by rfl, ?_⟩) (by assumption) ?_
  rotate_left
  · (intro w hSw; (try dsimp only at hSw); obtain ⟨s1_, s2_, s3_⟩ := hSw; go_simp; (try with_reducible rfl))
  (try simp only [uA, uB, uC, uD, uE, uF, uG, uH])
  refine wpAnyH_take (i := 12) (oi := _) (v := ?_) rfl (by kernel_rfl) (by kernel_rfl) (by kernel_rfl) (fun _ _ _ h => h) (Or.inl ⟨by rfl, ?_⟩) (by assumption) ?_
  rotate_left
  · (intro w hSw; (try dsimp only at hSw); obtain ⟨s1_, s2_, s3_⟩ := hSw; go_simp; (try with_reducible rfl))
  (try simp only [uA, uB, uC, uD, uE, uF, uG, uH])
  refine wpAnyH_take (i := 13) (oi := _) (v := ?_) rfl (by kernel_rfl) (by kernel_rfl) (by kernel_rfl) (fun _ _ _ h => h) (Or.inl ⟨by rfl, ?_⟩) (by assumption) ?_
  rotate_left
  · (intro w hSw; (try dsimp only at hSw); obtain ⟨s1_, s2_, s3_⟩ := hSw; go_simp; (try with_reducible rfl))
  (try simp only [uA, uB, uC, uD, uE, uF, uG, uH])
  refine wpAnyH_ready (rs := [3]) (by kernel_rfl) (by decide) (AllReadyH.cons rfl (fun K' hK => ?_) AllReadyH.nil)
  rw [if_pos (by rfl)]
  go_simp
  refine (C3.out).mono ?_
  rintro e W1 ⟨i1, v1, hp1, rfl, hvs, hb1⟩
  (try dsimp only)
  have q1 : Below W0.heap.size W0 W1 := (Below.refl _ W0).drew.trans hb1
  have HP1 := Aside0.mk hp1
  obtain ⟨vA, vc, rfl, hvc⟩ := Reads.form hvs
  have C14 := Aside0.mk (NC.out h200 _ i1 W1 hvs)
  clear hp1 hvs
  refine hK.out _ _ (by exact KP.out W1 q1) (fun hHeld => ?_)
  clear hK
  (try simp only [uA, uB, uC, uD, uE, uF, uG, uH])
  refine wpAnyH_ready (rs := [14]) (by kernel_rfl) (by decide) (AllReadyH.cons rfl (fun K' hK => ?_) AllReadyH.nil)
  rw [if_pos (by rfl)]
  go_simp
  refine (C14.out).mono ?_
  rintro e W2 ⟨⟨v2, rfl, hown⟩, hb2⟩
  (try dsimp only)
  have q2 : Below W0.heap.size W0 W2 := q1.trans (hb2.mono q1.size)
  have hxW : xb ≤ W1.heap.size := Nat.le_trans (Nat.le_of_lt hxl0) q1.size
  have HO := Aside0.mk hown
  clear hown
  refine hK.out _ _ (by exact KP.out W2 q2) (fun hHeld => ?_)
  clear hK
  (try simp only [uA, uB, uC, uD, uE, uF, uG, uH])
  refine wpAnyH_take (i := 15) (oi := _) (v := ?_) rfl (by kernel_rfl) (by kernel_rfl) (by kernel_rfl) (fun _ _ _ h => h) (Or.inl ⟨by rfl, ?_⟩) (by assumption) ?_
  rotate_left
  · (intro w hSw; (try dsimp only at hSw); obtain ⟨s1_, s2_, s3_⟩ := hSw; go_simp; (try with_reducible rfl))
  (try simp only [uA, uB, uC, uD, uE, uF, uG, uH])
  refine wpAnyH_take (i := 16) (oi := _) (v := ?_) rfl (by kernel_rfl) (by kernel_rfl) (by kernel_rfl) (fun _ _ _ h => h) (Or.inl ⟨by rfl, ?_⟩) (by assumption) ?_
  rotate_left
  · (intro w hSw; (try dsimp only at hSw); obtain ⟨s1_, s2_, s3_⟩ := hSw; go_simp; (try with_reducible rfl))
  (try simp only [uA, uB, uC, uD, uE, uF, uG, uH])
  refine wpAnyH_take (i := 17) (oi := _) (v := ?_) rfl (by kernel_rfl) (by kernel_rfl) (by kernel_rfl) (fun _ _ _ h => h) (Or.inl ⟨by rfl, ?_⟩) (by assumption) ?_
  rotate_left
  · (intro w hSw; (try dsimp only at hSw); obtain ⟨s1_, s2_, s3_⟩ := hSw; go_simp; (try with_reducible rfl))
  (try simp only [uA, uB, uC, uD, uE, uF, uG, uH])
  refine wpAnyH_take (i := 18) (oi := _) (v := ?_) rfl (by kernel_rfl) (by kernel_rfl) (by kernel_rfl) (fun _ _ _ h => h) (Or.inl ⟨by rfl, ?_⟩) (by assumption) ?_
  rotate_left
  · (intro w hSw; (try dsimp only at hSw); obtain ⟨s1_, s2_, s3_⟩ := hSw; go_simp; (try with_reducible rfl))
  (try simp only [uA, uB, uC, uD, uE, uF, uG, uH])
  refine wpAnyH_take (i := 19) (oi := _) (v := ?_) rfl (by kernel_rfl) (by kernel_rfl) (by kernel_rfl) (fun _ _ _ h => h) (Or.inl ⟨by rfl, ?_⟩) (by assumption) ?_
  rotate_left
  · (intro w hSw; (try dsimp only at hSw); obtain ⟨s1_, s2_, s3_⟩ := hSw; go_simp; (try with_reducible rfl))
  (try simp only [uA, uB, uC, uD, uE, uF, uG, uH])
  refine wpAnyH_done (by kernel_rfl) ?_ _
  have q2w : Below w.heap.size w W2 := B0.out.trans (q2.mono (by have := HXB.out; omega))
  have kp2 := KP.out W2 q2
  have c3 := kp2.2.1
  have cw := kp2.1
  have U2 := Aside0.mk (UC.out W2 q2w)
  have HBB := Aside0.mk (And.intro hb1 hb2)
  clear kp2 C3 C14 hb1 hb2
  go_upto_region 7 with (go_at_call 54; refine U2.out.mono ?_; rintro e W3 ⟨i, hp, rfl, hb3⟩; refine Aside0.out ?_)
  refine ⟨?_⟩
  obtain rfl : i1 = i := Pos.uniq HP1.out hp
  have q3w : Below w.heap.size w W3 := q2w.trans (hb3.mono q2w.size)
  have q3 : Below W0.heap.size W0 W3 := q2.trans (hb3.mono q2.size)
  have kp3 := KP.out W3 q3
  have c3 := kp3.2.1
  have B3 := Aside0.mk (q3w.mono (by have := HXB.out; omega) : Below n0 w W3)
  have K3 := Aside0.mk ((q3w.block wb hwl).trans HB.out)
  have cw := kp3.1
  have c1 : W3.cell? ⟨wb, 1, none⟩ = some (.slice XA d.us.length xc) := by have := K3.out; simp [World.cell?, this]
  have D3 := Aside0.mk (DirC.below HD.out q3w)
  have OW : Aside0 (nextF (histF d.us i1 c.u) (cmdX d c) = 0 → W3.ownsRow n0 68 3 v2 (histF d.us i1 c.u ++ [cmdX d c]).length (vsC (histF d.us i1 c.u ++ [cmdX d c]))) := ⟨fun hz => by
    have := HO.out hz
    rw [List.length_append]
    exact own_weaken (own_move this fun k e => hb3.block k (this.lt k e).2) (by omega)⟩
  have O3 : Aside0 (W3.ownsRow n0 63 2 (.slice XA d.us.length xc) d.us.length uc ∧ UsC W3 n0 d.us uc) := ⟨own_move HU1.out fun k e => q3w.block k (HU1.out.lt k e).2, UsC.move (fun k cur _ hc => q3w.block k (Array.getElem?_eq_some_iff.1 hc).1) HU2.out⟩
  have hxl3 : xb < W3.heap.size := by have := q3.size; omega
  have X41 := Aside0.mk ((q3.block xb hxl0).trans K41.out)
  clear HO hp hb3 kp3 q2 q2w q1 U2 NC
  have CD : Aside0 (∀ nf, nextF (histF d.us i1 c.u) (cmdX d c) = nf → addCode d c i1 = if nf ≠ 0 then nf else if there d.us i1 c.u then 0 else if d.us.length = 64 then 2 else 0) := ⟨fun nf h => by unfold addCode; rw [if_neg h200, h]⟩
  obtain ⟨nf, hnf⟩ : ∃ nf, nextF (histF d.us i1 c.u) (cmdX d c) = nf := ⟨_, rfl⟩
  rw [hnf] at OW ⊢
  have CE := Aside0.mk (CD.out nf hnf)
  clear CD hnf
  by_cases hz : nf = 0
  · subst hz
    have CE2 : Aside0 (addCode d c i1 = if there d.us i1 c.u then 0 else if d.us.length = 64 then 2 else 0) := ⟨by rw [CE.out, if_neg (by decide)]⟩
    clear CE
    have OW2 := Aside0.mk (OW.out rfl)
    obtain ⟨yA, yc, rfl, hyc⟩ := (Reads.of_own OW2.out).form
    generalize hln : (histF d.us i1 c.u ++ [cmdX d c]).length = ln at *
    have HLN := Aside0.mk hln
    clear OW hln
    by_cases ht : there d.us i1 c.u
    · have hfl : (decide (i1 < d.us.length) && decide (cmpN (nameAt d.us i1) c.u = 0)) = true := by rw [decide_eq_true ht.1, decide_eq_true ht.2]; rfl
      rw [hfl]
      have hin := ht.1
      obtain ⟨g, rfl⟩ : ∃ g, XA = some ⟨g, 0, none⟩ := by
        rcases O3.out.1.2 with ⟨h, h0⟩ | ⟨g, cap, cur, h, _⟩
        · omega
        · injection h with h
          exact ⟨g, h⟩
      have hx : d.us[i1]? = some d.us[i1] := List.getElem?_eq_getElem hin
      obtain ⟨v, ha, hb', hv⟩ := O3.out.2.at_ i1 _ hx
      have row := O3.out.1
      have o7 : W3.cell? ⟨g, i1 * 2 + 1, none⟩ = some v := by
        have := row.cells (g := g) rfl _ _ hb'
        rwa [Addr.add_lit, Nat.zero_add] at this
      have fz7 : W3.frozen? ⟨g, i1 * 2 + 1, none⟩ = false := row.frozenAt _
      have hge : (0 : Int) ≤ (i1 : Int) := by omega
      have hi0 : (i1 : Int) < (d.us.length : Int) := by omega
      have PP : Aside0 (AddPost d c n0 wb x2 x3 w (.returned (.int .i64 0)) (W3.setCell ⟨g, i1 * 2 + 1, none⟩ (.slice yA ln yc))) := ⟨by
        have e0 : addCode d c i1 = 0 := by rw [CE2.out, if_pos ht]
        have eD : addD d c i1 = ⟨d.e, d.us.set i1 ⟨d.us[i1].name, histF d.us i1 c.u ++ [cmdX d c]⟩, d.hs, d.ss⟩ := by
          unfold addD addUs
          rw [if_pos e0, if_pos ht]
          have : nameAt d.us i1 = d.us[i1].name := by unfold nameAt; rw [hx]; rfl
          rw [this]
        have hgb : n0 ≤ g := (row.lt g rfl).1
        have st := row.stored (i1 * 2 + 1) (.slice yA ln yc)
        have hfar : ∀ k, k ≠ g → (W3.setCell ⟨g, i1 * 2 + 1, none⟩ (.slice yA ln yc)).heap[k]? = W3.heap[k]? := fun k hk => Below.heap_setCell W3 _ _ k hk
        obtain ⟨curg, hcg⟩ := own_typed row g rfl
        have hm : ∀ (t : TypeId), t ≠ 63 → ∀ (k : Nat) (cur : Array Value), W3.heap[k]? = some (.cells cur t (0, 0)) → k ≠ g := fun t ht k cur hk e => by
          rw [e, hcg] at hk
          injection hk with hk
          injection hk with _ hk
          exact ht hk.symm
        have hus : UsC (W3.setCell ⟨g, i1 * 2 + 1, none⟩ (.slice yA ln yc)) n0 (d.us.set i1 ⟨d.us[i1].name, histF d.us i1 c.u ++ [cmdX d c]⟩) (uc.set (i1 * 2 + 1) (.slice yA ln yc)) := by
          refine UsC.set ?_ i1 _ (UsC.move (fun k cur _ hk => hfar k (hm 68 (by decide) k cur hk)) O3.out.2) hx
          rw [HLN.out]
          refine own_move OW2.out fun k e => hfar k ?_
          obtain ⟨cur, hc⟩ := own_typed OW2.out k e
          exact hm 68 (by decide) k cur hc
        have := AP.out i1 (.slice (some ⟨g, 0, none⟩) d.us.length xc) (W3.setCell ⟨g, i1 * 2 + 1, none⟩ (.slice yA ln yc)) HP1.out ((hfar wb (hm 47 (by decide) wb _ K3.out)).trans K3.out) (by
          rw [eD]
          refine ⟨⟨_, ?_, hus⟩, own_move D3.out.2.1 fun k e => hfar k ?_, own_move D3.out.2.2 fun k e => hfar k ?_⟩
          · rw [List.length_set]
            exact st.1
          · obtain ⟨cur, hc⟩ := own_typed D3.out.2.1 k e
            exact hm 36 (by decide) k cur hc
          · obtain ⟨cur, hc⟩ := own_typed D3.out.2.2 k e
            exact hm 71 (by decide) k cur hc) (B3.out.setCell hgb _)
        rw [e0] at this
        exact this⟩
      clear hx ha hb' hv row AP
      go_wp2_with fail
      go_ret
      exact PP.out
    · have hfl : (decide (i1 < d.us.length) && decide (cmpN (nameAt d.us i1) c.u = 0)) = false := by
        cases hq : decide (i1 < d.us.length) && decide (cmpN (nameAt d.us i1) c.u = 0)
        · rfl
        · rw [Bool.and_eq_true, decide_eq_true_eq, decide_eq_true_eq] at hq
          exact absurd hq ht
      rw [hfl]
      by_cases h64 : d.us.length = 64
      · have PP : Aside0 (AddPost d c n0 wb x2 x3 w (.returned (.int .i64 2)) W3) := ⟨by
          have e2 : addCode d c i1 = 2 := by rw [CE2.out, if_neg ht, if_pos h64]
          have eD : addD d c i1 = d := by unfold addD; rw [e2]; exact if_neg (by decide)
          have := AP.out i1 _ W3 HP1.out K3.out (by rw [eD]; exact D3.out) B3.out
          rw [e2] at this
          exact this⟩
        have h64i : (d.us.length : Int) = 64 := by omega
        clear h64
        go_wp2_with fail
        go_ret
        exact PP.out
      · have h64i : ¬ (d.us.length : Int) = 64 := by omega
        have e0 : Aside0 (addCode d c i1 = 0 ∧ addD d c i1 = ⟨d.e, d.us.take i1 ++ [⟨c.u, histF d.us i1 c.u ++ [cmdX d c]⟩] ++ d.us.drop i1, d.hs, d.ss⟩) := ⟨by
          have e : addCode d c i1 = 0 := by rw [CE2.out, if_neg ht, if_neg h64]
          refine ⟨e, ?_⟩
          unfold addD addUs
          rw [if_pos e, if_neg ht]⟩
        have IC : Aside0 (∀ (vb : Nat) (W : World), Below W3.heap.size W3 W → W3.heap.size ≤ vb → W.heap[vb]? = some (.cells [Value.string c.u, .slice yA ln yc].toArray 63 (0, 0)) → Calls Tryz.prog 55 #[.slice XA d.us.length xc, .int .i64 (i1 : Int), .slice (some ⟨vb, 0, none⟩) 1 1] W fun e w' => InsPost 63 2 n0 d.us.length i1 (.slice XA d.us.length xc) uc [.string c.u, .slice yA ln yc] W e w') := ⟨fun vb W hW hvl hv => insU_c _ _ _ _ _ vb n0 W (own_move O3.out.1 fun k e => hW.block k (O3.out.1.lt k e).2) hv (fun h => by have := (O3.out.1.lt vb h.symm).2; omega) rfl (by simp [Value.oneCell']) (UsC.one O3.out.2) (by omega) HP1.out.le (by have := hW.size; have := q3w.size; have := HXB.out; omega)⟩
        clear CE2 h64 ht hfl OK UA HC UC
        have SK : Aside0 (∀ W, Below W3.heap.size W3 W → W.cell? ⟨wb, 1, none⟩ = some (.slice XA d.us.length xc) ∧ W.cell? ⟨xb, 3, none⟩ = some (.string c.u)) := ⟨fun W hW => ⟨(hW.cell (p := ⟨wb, 1, none⟩) (by have := q3.size; show wb < _; omega)).trans c1, (hW.cell (p := ⟨xb, 3, none⟩) hxl3).trans c3⟩⟩
        go_upto_region 6 with fail
        refine wp_region_held_drew (S := (fun W => W.cell? ⟨xb, 3, none⟩ = some (.string c.u))) (by kernel_rfl) (by exact (SK.out W3 (Below.refl _ _)).2) (fun hHeld => ?_)
        refine wpAnyH_take (i := 0) (oi := _) (v := ?_) rfl (by kernel_rfl) (by kernel_rfl) (by kernel_rfl) (fun _ _ _ h => h) (Or.inl ⟨by rfl, ?_⟩) (by assumption) ?_
        rotate_left
        · (intro w hSw; (try dsimp only at hSw); go_simp; (try with_reducible rfl))
        (try simp only [uA, uB, uC, uD, uE, uF, uG, uH])
        refine wpAnyH_take (i := 1) (oi := _) (v := ?_) rfl (by kernel_rfl) (by kernel_rfl) (by kernel_rfl) (fun _ _ _ h => h) (Or.inl ⟨by rfl, ?_⟩) (by assumption) ?_
        rotate_left
        · (intro w hSw; (try dsimp only at hSw); go_simp; (try with_reducible rfl))
        (try simp only [uA, uB, uC, uD, uE, uF, uG, uH])
        refine wpAnyH_take (i := 2) (oi := _) (v := ?_) rfl (by kernel_rfl) (by kernel_rfl) (by kernel_rfl) (fun _ _ _ h => h) (Or.inl ⟨by rfl, ?_⟩) (by assumption) ?_
        rotate_left
        · (intro w hSw; (try dsimp only at hSw); go_simp; (try with_reducible rfl))
        (try simp only [uA, uB, uC, uD, uE, uF, uG, uH])
        refine wpAnyH_take (i := 3) (oi := _) (v := ?_) rfl (by kernel_rfl) (by kernel_rfl) (by kernel_rfl) (fun _ _ _ h => h) (Or.inl ⟨by rfl, ?_⟩) (by assumption) ?_
        rotate_left
        · (intro w hSw; (try dsimp only at hSw); go_simp; (try with_reducible rfl))
        (try simp only [uA, uB, uC, uD, uE, uF, uG, uH])
        refine wpAnyH_take (i := 4) (oi := _) (v := ?_) rfl (by kernel_rfl) (by kernel_rfl) (by kernel_rfl) (fun _ _ _ h => h) (Or.inl ⟨by rfl, ?_⟩) (by assumption) ?_
        rotate_left
        · (intro w hSw; (try dsimp only at hSw); go_simp; (try with_reducible rfl))
        (try simp only [uA, uB, uC, uD, uE, uF, uG, uH])
        refine wpAnyH_take (i := 6) (oi := _) (v := ?_) rfl (by kernel_rfl) (by kernel_rfl) (by kernel_rfl) (fun _ _ _ h => h) (Or.inl ⟨by rfl, ?_⟩) (by assumption) ?_
        rotate_left
        · (intro w hSw; (try dsimp only at hSw); go_simp; (try with_reducible rfl))
        (try simp only [uA, uB, uC, uD, uE, uF, uG, uH])
        refine wpAnyH_take (i := 7) (oi := _) (v := ?_) rfl (by kernel_rfl) (by kernel_rfl) (by kernel_rfl) (fun _ _ _ h => h) (Or.inl ⟨by rfl, ?_⟩) (by assumption) ?_
        rotate_left
        · (intro w hSw; (try dsimp only at hSw); go_simp; (try with_reducible rfl))
        (try simp only [uA, uB, uC, uD, uE, uF, uG, uH])
        refine wpAnyH_take (i := 8) (oi := _) (v := ?_) rfl (by kernel_rfl) (by kernel_rfl) (by kernel_rfl) (fun _ _ _ h => h) (Or.inl ⟨by rfl, ?_⟩) (by assumption) ?_
        rotate_left
        · (intro w hSw; (try dsimp only at hSw); go_simp; (try with_reducible rfl))
        (try simp only [uA, uB, uC, uD, uE, uF, uG, uH])
        refine wpAnyH_take (i := 9) (oi := _) (v := ?_) rfl (by kernel_rfl) (by kernel_rfl) (by kernel_rfl) (fun _ _ _ h => h) (Or.inl ⟨by rfl, ?_⟩) (by assumption) ?_
        rotate_left
        · (intro w hSw; (try dsimp only at hSw); go_simp; (try with_reducible rfl))
        (try simp only [uA, uB, uC, uD, uE, uF, uG, uH])
        refine wpAnyH_take (i := 10) (oi := _) (v := ?_) rfl (by kernel_rfl) (by kernel_rfl) (by kernel_rfl) (fun _ _ _ h => h) (Or.inl ⟨by rfl, ?_⟩) (by assumption) ?_
        rotate_left
        · (intro w hSw; (try dsimp only at hSw); go_simp; (try with_reducible rfl))
        (try simp only [uA, uB, uC, uD, uE, uF, uG, uH])
        refine wpAnyH_ready (rs := [5, 11]) (by kernel_rfl) (by decide) (AllReadyH.cons rfl (fun K' hK => ?_) (AllReadyH.cons rfl (fun K' hK => ?_) AllReadyH.nil))
        · rw [if_pos (by rfl)]
          go_simp

          refine hK.out _ _ (by exact c3) (fun hHeld => ?_)
          clear hK
          (try simp only [uA, uB, uC, uD, uE, uF, uG, uH])
          refine wpAnyH_ready (rs := [11]) (by kernel_rfl) (by decide) (AllReadyH.cons rfl (fun K' hK => ?_) AllReadyH.nil)
          rw [if_pos (by rfl)]
          go_simp
          obtain ⟨W4, hW4⟩ : ∃ W4, (World.alloc W3.drew (Obj.cells #[.string c.u, .slice yA ln yc] 63)) = W4 := ⟨_, rfl⟩
          have hW4' : (W3.alloc (.cells #[.string c.u, .slice yA ln yc] 63)).drew = W4 := by rw [← hW4]; rfl
          have b4 : Below W3.heap.size W3 W4 := by rw [← hW4']; exact ((Below.refl _ _).alloc (Nat.le_refl _) _).drew
          have k4 : W4.heap[W3.heap.size]? = some (.cells #[.string c.u, .slice yA ln yc] 63 (0, 0)) := by rw [← hW4']; exact blk_new W3 _
          have C12 := Aside0.mk (IC.out W3.heap.size W4 b4 (Nat.le_refl _) k4)
          (first | rw [hW4] | rw [hW4'] | skip)
          refine hK.out _ _ (by exact (SK.out W4 b4).2) (fun hHeld => ?_)
          clear hK
          (try simp only [uA, uB, uC, uD, uE, uF, uG, uH])
          refine wpAnyH_ready (rs := [12]) (by kernel_rfl) (by decide) (AllReadyH.cons rfl (fun K' hK => ?_) AllReadyH.nil)
          rw [if_pos (by rfl)]
          go_simp
          refine (C12.out).mono ?_
          rintro e W5 ⟨v5, rfl, ho5, hg5⟩
          (try dsimp only)
          have hfar : ∀ k, k < W3.heap.size → some k ≠ (Value.slice XA d.us.length xc).ownBlock → W5.heap[k]? = W3.heap[k]? := fun k hk hne => (hg5.block k (by have := b4.size; omega) hne).trans (b4.block k hk)
          obtain ⟨zA, zc, rfl, hzc⟩ := (Reads.of_own ho5).form
          have hm : ∀ (t : TypeId), 63 ≠ t → ∀ (k : Nat) (cur : Array Value), W3.heap[k]? = some (.cells cur t (0, 0)) → W5.heap[k]? = W3.heap[k]? := fun t ht k cur hk => hfar k (Array.getElem?_eq_some_iff.1 hk).1 (own_ne O3.out.1 hk ht)
          have k5 := (hm 47 (by decide) wb _ K3.out).trans K3.out
          have g5 : W5.cell? ⟨wb, 1, none⟩ = some (.slice XA d.us.length xc) := by simp [World.cell?, k5]
          have x5 : W5.cell? ⟨xb, 3, none⟩ = some (.string c.u) := (World.cell?_of_block (w := W3) ((by
            have hx := X41.out
            exact hm 41 (by decide) xb _ hx))).trans c3
          have f5 : W5.frozen? ⟨wb, 1, none⟩ = false := by simp [World.frozen?, k5]
          have D5 : Aside0 (UsC W5 n0 (d.us.take i1 ++ [⟨c.u, histF d.us i1 c.u ++ [cmdX d c]⟩] ++ d.us.drop i1) (insF 2 i1 uc [.string c.u, .slice yA ln yc]) ∧ W5.ownsRow n0 36 65 x2 d.hs.length (hsC d.hs) ∧ W5.ownsRow n0 71 4 x3 d.ss.length (ssC d.ss) ∧ Below n0 w W5 ∧ n0 ≤ wb) := ⟨by
            refine ⟨UsC.ins (by
              rw [HLN.out]
              refine own_move OW2.out fun k e => ?_
              obtain ⟨cur, hc⟩ := own_typed OW2.out k e
              exact hm 68 (by decide) k cur hc) i1 (UsC.move (fun k cur _ hk => hm 68 (by decide) k cur hk) O3.out.2) HP1.out.le, own_move D3.out.2.1 fun k e => ?_, own_move D3.out.2.2 fun k e => ?_, B3.out.trans ((b4.mono (by have := q3w.size; have := HXB.out; omega)).grown hg5 (by have := b4.size; have := q3w.size; have := HXB.out; omega) fun k e => (O3.out.1.lt k e).1), hn0⟩
            · obtain ⟨cur, hc⟩ := own_typed D3.out.2.1 k e
              exact hm 36 (by decide) k cur hc
            · obtain ⟨cur, hc⟩ := own_typed D3.out.2.2 k e
              exact hm 71 (by decide) k cur hc⟩
          have HO5 := Aside0.mk ho5
          have K5 := Aside0.mk k5
          clear ho5 k5 hm hfar hg5
          refine hK.out _ _ (by exact x5) (fun hHeld => ?_)
          clear hK
          (try simp only [uA, uB, uC, uD, uE, uF, uG, uH])
          refine wpAnyH_take (i := 13) (oi := _) (v := ?_) rfl (by kernel_rfl) (by kernel_rfl) (by kernel_rfl) (fun _ _ _ h => h) (Or.inl ⟨by rfl, ?_⟩) (by assumption) ?_
          rotate_left
          · (intro w hSw; (try dsimp only at hSw); go_simp; (try with_reducible rfl))
          (try simp only [uA, uB, uC, uD, uE, uF, uG, uH])
          refine wpAnyH_take (i := 14) (oi := _) (v := ?_) rfl (by kernel_rfl) (by kernel_rfl) (by kernel_rfl) (fun _ _ _ h => h) (Or.inl ⟨by rfl, ?_⟩) (by assumption) ?_
          rotate_left
          · (intro w hSw; (try dsimp only at hSw); go_simp; (try with_reducible rfl))
          (try simp only [uA, uB, uC, uD, uE, uF, uG, uH])
          refine wpAnyH_take (i := 15) (oi := _) (v := ?_) rfl (by kernel_rfl) (by kernel_rfl) (by kernel_rfl) (fun _ _ _ h => h) (Or.inl ⟨by rfl, ?_⟩) (by assumption) ?_
          rotate_left
          · (intro w hSw; (try dsimp only at hSw); go_simp; (try with_reducible rfl))
          (try simp only [uA, uB, uC, uD, uE, uF, uG, uH])
          refine wpAnyH_ready (rs := [16]) (by kernel_rfl) (by decide) (AllReadyH.cons rfl (fun K' hK => ?_) AllReadyH.nil)
          rw [if_pos (by rfl)]
          go_simp
          have PP : Aside0 (AddPost d c n0 wb x2 x3 w (.returned (.int .i64 0)) (W5.setCell ⟨wb, 1, none⟩ (.slice zA (d.us.length + 1) zc))) := ⟨by
            obtain ⟨d1, d2, d3, d4, d5⟩ := D5.out
            have hk : (W5.setCell ⟨wb, 1, none⟩ (.slice zA (d.us.length + 1) zc)).heap[wb]? = some (.cells #[.int .i64 d.e, .slice zA (d.us.length + 1) zc, x2, x3] 47 (0, 0)) := blk_put K5.out 1 _ rfl
            have hfar : ∀ k, k ≠ wb → (W5.setCell ⟨wb, 1, none⟩ (.slice zA (d.us.length + 1) zc)).heap[k]? = W5.heap[k]? := fun k hk => Below.heap_setCell W5 _ _ k hk
            have hm : ∀ (t : TypeId), t ≠ 47 → ∀ (k : Nat) (cur : Array Value), W5.heap[k]? = some (.cells cur t (0, 0)) → k ≠ wb := fun t ht k cur hk e => by
              rw [e, K5.out] at hk
              injection hk with hk
              injection hk with _ hk
              exact ht hk.symm
            have := AP.out i1 (.slice zA (d.us.length + 1) zc) _ HP1.out hk (by
              rw [e0.out.2]
              refine ⟨⟨_, ?_, UsC.move (fun k cur _ hk => hfar k (hm 68 (by decide) k cur hk)) d1⟩, own_move d2 fun k e => hfar k ?_, own_move d3 fun k e => hfar k ?_⟩
              · have hl : (d.us.take i1 ++ [(⟨c.u, histF d.us i1 c.u ++ [cmdX d c]⟩ : Usr)] ++ d.us.drop i1).length = d.us.length + 1 := by
                  have := HP1.out.le
                  simp only [List.length_append, List.length_take, List.length_drop, List.length_singleton]
                  omega
                dsimp only
                rw [hl]
                refine own_move HO5.out fun k e => hfar k ?_
                obtain ⟨cur, hc⟩ := own_typed HO5.out k e
                exact hm 63 (by decide) k cur hc
              · obtain ⟨cur, hc⟩ := own_typed d2 k e
                exact hm 36 (by decide) k cur hc
              · obtain ⟨cur, hc⟩ := own_typed d3 k e
                exact hm 71 (by decide) k cur hc) (d4.setCell d5 _)
            rw [e0.out.1] at this
            exact this⟩
          have hxw : xb ≠ wb := fun e => by
            have h1 := X41.out
            rw [e, K3.out] at h1
            injection h1 with h1
            injection h1 with _ h1
            exact absurd h1 (by decide)
          have x6 : (W5.setCell ⟨wb, 1, none⟩ (.slice zA (d.us.length + 1) zc)).cell? ⟨xb, 3, none⟩ = some (.string c.u) := (World.cell?_of_block (w := W5) (Below.heap_setCell W5 _ _ _ hxw)).trans x5
          refine hK.out _ _ (by exact x6) (fun hHeld => ?_)
          clear hK
          (try simp only [uA, uB, uC, uD, uE, uF, uG, uH])
          refine wpAnyH_done (by kernel_rfl) ?_ _
          go_wp2_with fail
          go_ret
          exact PP.out
        · rw [if_pos (by rfl)]
          go_simp
          obtain ⟨W4, hW4⟩ : ∃ W4, (World.alloc W3.drew (Obj.cells #[.string c.u, .slice yA ln yc] 63)) = W4 := ⟨_, rfl⟩
          have hW4' : (W3.alloc (.cells #[.string c.u, .slice yA ln yc] 63)).drew = W4 := by rw [← hW4]; rfl
          have b4 : Below W3.heap.size W3 W4 := by rw [← hW4']; exact ((Below.refl _ _).alloc (Nat.le_refl _) _).drew
          have k4 : W4.heap[W3.heap.size]? = some (.cells #[.string c.u, .slice yA ln yc] 63 (0, 0)) := by rw [← hW4']; exact blk_new W3 _
          have C12 := Aside0.mk (IC.out W3.heap.size W4 b4 (Nat.le_refl _) k4)
          (first | rw [hW4] | rw [hW4'] | skip)
          have c1 := (SK.out W4 b4).1
          refine hK.out _ _ (by exact (SK.out W4 b4).2) (fun hHeld => ?_)
          clear hK
          (try simp only [uA, uB, uC, uD, uE, uF, uG, uH])
          refine wpAnyH_ready (rs := [5]) (by kernel_rfl) (by decide) (AllReadyH.cons rfl (fun K' hK => ?_) AllReadyH.nil)
          rw [if_pos (by rfl)]
          go_simp

          refine hK.out _ _ (by exact (SK.out W4 b4).2) (fun hHeld => ?_)
          clear hK
          (try simp only [uA, uB, uC, uD, uE, uF, uG, uH])
          refine wpAnyH_ready (rs := [12]) (by kernel_rfl) (by decide) (AllReadyH.cons rfl (fun K' hK => ?_) AllReadyH.nil)
          rw [if_pos (by rfl)]
          go_simp
          refine (C12.out).mono ?_
          rintro e W5 ⟨v5, rfl, ho5, hg5⟩
          (try dsimp only)
          have hfar : ∀ k, k < W3.heap.size → some k ≠ (Value.slice XA d.us.length xc).ownBlock → W5.heap[k]? = W3.heap[k]? := fun k hk hne => (hg5.block k (by have := b4.size; omega) hne).trans (b4.block k hk)
          obtain ⟨zA, zc, rfl, hzc⟩ := (Reads.of_own ho5).form
          have hm : ∀ (t : TypeId), 63 ≠ t → ∀ (k : Nat) (cur : Array Value), W3.heap[k]? = some (.cells cur t (0, 0)) → W5.heap[k]? = W3.heap[k]? := fun t ht k cur hk => hfar k (Array.getElem?_eq_some_iff.1 hk).1 (own_ne O3.out.1 hk ht)
          have k5 := (hm 47 (by decide) wb _ K3.out).trans K3.out
          have g5 : W5.cell? ⟨wb, 1, none⟩ = some (.slice XA d.us.length xc) := by simp [World.cell?, k5]
          have x5 : W5.cell? ⟨xb, 3, none⟩ = some (.string c.u) := (World.cell?_of_block (w := W3) ((by
            have hx := X41.out
            exact hm 41 (by decide) xb _ hx))).trans c3
          have f5 : W5.frozen? ⟨wb, 1, none⟩ = false := by simp [World.frozen?, k5]
          have D5 : Aside0 (UsC W5 n0 (d.us.take i1 ++ [⟨c.u, histF d.us i1 c.u ++ [cmdX d c]⟩] ++ d.us.drop i1) (insF 2 i1 uc [.string c.u, .slice yA ln yc]) ∧ W5.ownsRow n0 36 65 x2 d.hs.length (hsC d.hs) ∧ W5.ownsRow n0 71 4 x3 d.ss.length (ssC d.ss) ∧ Below n0 w W5 ∧ n0 ≤ wb) := ⟨by
            refine ⟨UsC.ins (by
              rw [HLN.out]
              refine own_move OW2.out fun k e => ?_
              obtain ⟨cur, hc⟩ := own_typed OW2.out k e
              exact hm 68 (by decide) k cur hc) i1 (UsC.move (fun k cur _ hk => hm 68 (by decide) k cur hk) O3.out.2) HP1.out.le, own_move D3.out.2.1 fun k e => ?_, own_move D3.out.2.2 fun k e => ?_, B3.out.trans ((b4.mono (by have := q3w.size; have := HXB.out; omega)).grown hg5 (by have := b4.size; have := q3w.size; have := HXB.out; omega) fun k e => (O3.out.1.lt k e).1), hn0⟩
            · obtain ⟨cur, hc⟩ := own_typed D3.out.2.1 k e
              exact hm 36 (by decide) k cur hc
            · obtain ⟨cur, hc⟩ := own_typed D3.out.2.2 k e
              exact hm 71 (by decide) k cur hc⟩
          have HO5 := Aside0.mk ho5
          have K5 := Aside0.mk k5
          clear ho5 k5 hm hfar hg5
          refine hK.out _ _ (by exact x5) (fun hHeld => ?_)
          clear hK
          (try simp only [uA, uB, uC, uD, uE, uF, uG, uH])
          refine wpAnyH_take (i := 13) (oi := _) (v := ?_) rfl (by kernel_rfl) (by kernel_rfl) (by kernel_rfl) (fun _ _ _ h => h) (Or.inl ⟨by rfl, ?_⟩) (by assumption) ?_
          rotate_left
          · (intro w hSw; (try dsimp only at hSw); go_simp; (try with_reducible rfl))
          (try simp only [uA, uB, uC, uD, uE, uF, uG, uH])
          refine wpAnyH_take (i := 14) (oi := _) (v := ?_) rfl (by kernel_rfl) (by kernel_rfl) (by kernel_rfl) (fun _ _ _ h => h) (Or.inl ⟨by rfl, ?_⟩) (by assumption) ?_
          rotate_left
          · (intro w hSw; (try dsimp only at hSw); go_simp; (try with_reducible rfl))
          (try simp only [uA, uB, uC, uD, uE, uF, uG, uH])
          refine wpAnyH_take (i := 15) (oi := _) (v := ?_) rfl (by kernel_rfl) (by kernel_rfl) (by kernel_rfl) (fun _ _ _ h => h) (Or.inl ⟨by rfl, ?_⟩) (by assumption) ?_
          rotate_left
          · (intro w hSw; (try dsimp only at hSw); go_simp; (try with_reducible rfl))
          (try simp only [uA, uB, uC, uD, uE, uF, uG, uH])
          refine wpAnyH_ready (rs := [16]) (by kernel_rfl) (by decide) (AllReadyH.cons rfl (fun K' hK => ?_) AllReadyH.nil)
          rw [if_pos (by rfl)]
          go_simp
          have PP : Aside0 (AddPost d c n0 wb x2 x3 w (.returned (.int .i64 0)) (W5.setCell ⟨wb, 1, none⟩ (.slice zA (d.us.length + 1) zc))) := ⟨by
            obtain ⟨d1, d2, d3, d4, d5⟩ := D5.out
            have hk : (W5.setCell ⟨wb, 1, none⟩ (.slice zA (d.us.length + 1) zc)).heap[wb]? = some (.cells #[.int .i64 d.e, .slice zA (d.us.length + 1) zc, x2, x3] 47 (0, 0)) := blk_put K5.out 1 _ rfl
            have hfar : ∀ k, k ≠ wb → (W5.setCell ⟨wb, 1, none⟩ (.slice zA (d.us.length + 1) zc)).heap[k]? = W5.heap[k]? := fun k hk => Below.heap_setCell W5 _ _ k hk
            have hm : ∀ (t : TypeId), t ≠ 47 → ∀ (k : Nat) (cur : Array Value), W5.heap[k]? = some (.cells cur t (0, 0)) → k ≠ wb := fun t ht k cur hk e => by
              rw [e, K5.out] at hk
              injection hk with hk
              injection hk with _ hk
              exact ht hk.symm
            have := AP.out i1 (.slice zA (d.us.length + 1) zc) _ HP1.out hk (by
              rw [e0.out.2]
              refine ⟨⟨_, ?_, UsC.move (fun k cur _ hk => hfar k (hm 68 (by decide) k cur hk)) d1⟩, own_move d2 fun k e => hfar k ?_, own_move d3 fun k e => hfar k ?_⟩
              · have hl : (d.us.take i1 ++ [(⟨c.u, histF d.us i1 c.u ++ [cmdX d c]⟩ : Usr)] ++ d.us.drop i1).length = d.us.length + 1 := by
                  have := HP1.out.le
                  simp only [List.length_append, List.length_take, List.length_drop, List.length_singleton]
                  omega
                dsimp only
                rw [hl]
                refine own_move HO5.out fun k e => hfar k ?_
                obtain ⟨cur, hc⟩ := own_typed HO5.out k e
                exact hm 63 (by decide) k cur hc
              · obtain ⟨cur, hc⟩ := own_typed d2 k e
                exact hm 36 (by decide) k cur hc
              · obtain ⟨cur, hc⟩ := own_typed d3 k e
                exact hm 71 (by decide) k cur hc) (d4.setCell d5 _)
            rw [e0.out.1] at this
            exact this⟩
          have hxw : xb ≠ wb := fun e => by
            have h1 := X41.out
            rw [e, K3.out] at h1
            injection h1 with h1
            injection h1 with _ h1
            exact absurd h1 (by decide)
          have x6 : (W5.setCell ⟨wb, 1, none⟩ (.slice zA (d.us.length + 1) zc)).cell? ⟨xb, 3, none⟩ = some (.string c.u) := (World.cell?_of_block (w := W5) (Below.heap_setCell W5 _ _ _ hxw)).trans x5
          refine hK.out _ _ (by exact x6) (fun hHeld => ?_)
          clear hK
          (try simp only [uA, uB, uC, uD, uE, uF, uG, uH])
          refine wpAnyH_done (by kernel_rfl) ?_ _
          go_wp2_with fail
          go_ret
          exact PP.out
  · have PP : Aside0 (AddPost d c n0 wb x2 x3 w (.returned (.int .i64 nf)) W3) := ⟨by
      have e2 : addCode d c i1 = nf := by rw [CE.out, if_pos hz]
      have eD : addD d c i1 = d := by unfold addD; rw [e2]; exact if_neg hz
      have := AP.out i1 _ W3 HP1.out K3.out (by rw [eD]; exact D3.out) B3.out
      rw [e2] at this
      exact this⟩
    go_wp2_with fail
    go_ret
    exact PP.out
end Go.Proofs.YtadkeohohehmcaaGreatDoor.Top
end
section
/- A client's command; what it makes of a directory. -/
namespace Go.Proofs.YtadkeohohehmcaaGreatDoor.Top
open Go.RowKit Go.Proofs.YtadkeohohehmcaaGreatDoorW.PrintWords Go.Proofs.YtadkeohohehmcaaGreatDoorW.PrintLast Go.Proofs.YtadkeohohehmcaaGreatDoorW.PrintMore Go.Proofs.YtadkeohohehmcaaGreatDoor.PTop
set_option linter.unusedVariables false
set_option linter.unusedSimpArgs false
def thereS (ss : List Ses) (j : Nat) (n : Int) : Prop := j < ss.length ∧ Lib.compareInt (cliAt ss j) n = 0
instance (ss : List Ses) (j : Nat) (n : Int) : Decidable (thereS ss j n) := by unfold thereS; infer_instance
def sesAt (ss : List Ses) (j : Nat) : Ses := ss[j]?.getD ⟨0, 0, 0, 0⟩
def reqCode (d : Dir) (c : Cmd) (j : Nat) : Int := if thereS d.ss j c.c ∧ (sesAt d.ss j).s > c.s then 71 else 0
def insSs (ss : List Ses) (j : Nat) (n : Int) : List Ses := ss.take j ++ [⟨n, 0, 0, 0⟩] ++ ss.drop j
def ss1 (d : Dir) (c : Cmd) (j : Nat) : List Ses := if thereS d.ss j c.c then d.ss else insSs d.ss j c.c
def doneD (d : Dir) (c : Cmd) (i j : Nat) (l : List Ses) : Dir := ⟨(addD d c i).e, (addD d c i).us, (addD d c i).hs, l.set j ⟨(sesAt l j).c, c.s, addCode d c i, d.e⟩⟩
def reqD (d : Dir) (c : Cmd) (i j : Nat) : Dir := if thereS d.ss j c.c ∧ (sesAt d.ss j).s = c.s then d else doneD d c i j (ss1 d c j)
theorem addD_ss (d : Dir) (c : Cmd) (i : Nat) (l : List Ses) : addCode ⟨d.e, d.us, d.hs, l⟩ c i = addCode d c i ∧ addD ⟨d.e, d.us, d.hs, l⟩ c i = ⟨(addD d c i).e, (addD d c i).us, (addD d c i).hs, l⟩ := by
  have e : addCode ⟨d.e, d.us, d.hs, l⟩ c i = addCode d c i := rfl
  refine ⟨e, ?_⟩
  unfold addD
  rw [e]
  split <;> rfl
theorem addD_e (d : Dir) (c : Cmd) (i : Nat) : (addD d c i).e = d.e ∧ (addD d c i).hs = d.hs ∧ (addD d c i).ss = d.ss := by
  unfold addD
  split <;> exact ⟨rfl, rfl, rfl⟩
theorem ssC_append : ∀ a b : List Ses, ssC (a ++ b) = ssC a ++ ssC b
  | [], b => rfl
  | x :: r, b => by rw [List.cons_append, ssC, ssC, ssC_append r b, List.append_assoc]
theorem ssC_take : ∀ (l : List Ses) (m : Nat), (ssC l).take (m * 4) = ssC (l.take m)
  | [], m => by simp [ssC]
  | x :: r, 0 => by simp [ssC]
  | x :: r, m + 1 => by
    have e : (m + 1) * 4 = (scells x).length + m * 4 := by simp [scells]; omega
    rw [ssC, List.take_succ_cons, ssC, e, List.take_length_add_append, ssC_take r m]
theorem ssC_drop : ∀ (l : List Ses) (m : Nat), (ssC l).drop (m * 4) = ssC (l.drop m)
  | [], m => by simp [ssC]
  | x :: r, 0 => by simp
  | x :: r, m + 1 => by
    have e : (m + 1) * 4 = (scells x).length + m * 4 := by simp [scells]; omega
    rw [ssC, List.drop_succ_cons, e, List.drop_length_add_append, ssC_drop r m]
theorem ssC_ins (l : List Ses) (j : Nat) (n : Int) : insF 4 j (ssC l) [.int .i64 n, .int .i64 0, .int .i64 0, .int .i64 0] = ssC (insSs l j n) := by
  unfold insF insSs
  rw [ssC_take, ssC_drop, ssC_append, ssC_append]
  rfl
theorem ssC_set : ∀ (l : List Ses) (j : Nat) (s s' : Ses) (k : Nat) (v : Value), l[j]? = some s → k < 4 → scells s' = (scells s).set k v → (ssC l).set (j * 4 + k) v = ssC (l.set j s')
  | [], j, s, _, _, _, h, _, _ => by simp at h
  | x :: r, 0, s, s', k, v, h, hk, he => by
    obtain rfl : x = s := by simpa using h
    rw [ssC, List.set_cons_zero, ssC, he, Nat.zero_mul, Nat.zero_add, List.set_append, if_pos (by simpa [scells] using hk)]
  | x :: r, j + 1, s, s', k, v, h, hk, he => by
    have := ssC_set r j s s' k v (by simpa using h) hk he
    have l4 : (scells x).length = 4 := rfl
    rw [ssC, List.set_cons_succ, ssC, List.set_append, if_neg (by omega), l4, show (j + 1) * 4 + k - 4 = j * 4 + k by omega, this]
theorem insSs_len (l : List Ses) (j : Nat) (n : Int) (h : j ≤ l.length) : (insSs l j n).length = l.length + 1 := by
  unfold insSs
  simp only [List.length_append, List.length_take, List.length_drop, List.length_singleton]
  omega
theorem insSs_at (l : List Ses) (j : Nat) (n : Int) (h : j ≤ l.length) : sesAt (insSs l j n) j = ⟨n, 0, 0, 0⟩ := by
  unfold sesAt insSs
  rw [List.append_assoc, List.getElem?_append_right (by rw [List.length_take]; omega), List.length_take, Nat.min_eq_left h, Nat.sub_self]
  rfl
structure ReqPost (d : Dir) (c : Cmd) (n0 wb : Nat) (w : World) (e : Ending) (w' : World) : Prop where
  out : ∃ i j, Pos d.us.length (fun t => cmpN (nameAt d.us t) c.u) i ∧ Pos d.ss.length (fun t => Lib.compareInt (cliAt d.ss t) c.c) j ∧ e = .returned (.int .i64 (reqCode d c j)) ∧ (reqCode d c j = 0 → Wk w' wb n0 (reqD d c i j)) ∧ Below n0 w w'
structure ReqOk (d : Dir) (c : Cmd) : Prop where
  add : AddOk d c
  len : d.ss.length ≤ 1000
  root : c.root.length = 32
  rise : ∀ a b, a ≤ b → b < d.ss.length → Lib.compareInt (cliAt d.ss b) c.c < 0 → Lib.compareInt (cliAt d.ss a) c.c < 0
theorem size41 : (Tryz.prog.info? 41).map (·.size) = some 38 := by kernel_rfl
theorem zero71 : (Tryz.prog.info? 71).map (·.zero) = some (some (.agg #[.int .i64 0, .int .i64 0, .int .i64 0, .int .i64 0])) := by kernel_rfl
end Go.Proofs.YtadkeohohehmcaaGreatDoor.Top
end
