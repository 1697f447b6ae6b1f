/- Behind; what the document's L answers: parts. -/
import Derived.Test.YtpjachbmllklgaaRoomP
import Derived.Test.YtpjachbmllklgaaRefA
namespace Go.Proofs.Ytpjachbmllklgaa.Rng
open Go.RowKit Go.Proofs.YtpjachbmllklgaaW.PrintWords Go.Proofs.Ytpjachbmllklgaa.Kinds Go.Proofs.Ytpjachbmllklgaa.PCou
set_option linter.unusedVariables false
set_option linter.unusedSimpArgs false
attribute [local go_sem] Oper.semAt_some

/-- Is a log that ends so older than one that ends with that number and term? -/
def behV (x : Int × Int) (index term : Int) : Bool := decide (x.2 < term) || (decide (x.2 = term) && decide (x.1 < index))

set_option maxHeartbeats 1000000 in
set_option maxRecDepth 100000 in
theorem behind_c (s : Sv) (b off : Nat) (css : List (List Value)) (w : World) (h : Lg w s b off css) (index term : Int) :
    Calls Try.prog 30 #[.agg s.cells, .int .i64 index, .int .i64 term] w fun e w' => e = .returned (.bool (behV (lastV (s.sound css) (soundE s css)) index term)) ∧ Below w.heap.size w w' := by
  have e11 : ∀ args w, (callFunc 11 args).run Try.prog w = .ok (.enter 11 args) w := enters_of Try.func11 (by kernel_rfl) rfl
  obtain ⟨⟨n1, t1⟩, hlv⟩ : ∃ x, lastV (s.sound css) (soundE s css) = x := ⟨_, rfl⟩
  have C : Aside0 (∀ W, Below w.heap.size w W → Calls Try.prog 11 #[.agg s.cells] W fun e w' => e = .returned (.tuple #[.int .i64 n1, .int .i64 t1]) ∧ Below W.heap.size W w') := ⟨fun W hW => by have := last_c s b off css W (h.below hW); rw [hlv] at this; exact this⟩
  rw [hlv]
  clear h hlv
  generalize hrv : behV (n1, t1) index term = rv
  have RV := Aside0.mk hrv
  clear hrv
  rw [cells_eq]
  go_enter Try.func30, Try.ntmps30
  go_wp2_with fail
  rw [← cells_eq]
  have q0 : Below w.heap.size w (w.alloc (.cells s.cells 30)) := (Below.refl _ w).alloc (Nat.le_refl _) _
  generalize w.alloc (.cells s.cells 30) = W0 at q0 ⊢
  refine (C.out W0 q0).mono ?_
  rintro e w2 ⟨rfl, hb2⟩
  have q2 : Below w.heap.size w w2 := q0.trans (hb2.mono q0.size)
  clear C q0 hb2
  by_cases g1 : t1 < term
  · obtain rfl : true = rv := by rw [← RV.out]; simp [behV, g1]
    go_wp2
    go_ret
    exact ⟨rfl, q2⟩
  · by_cases g2 : t1 = term
    · by_cases g3 : n1 < index
      · obtain rfl : true = rv := by rw [← RV.out]; simp [behV, g2, g3]
        subst g2
        go_wp2
        go_ret
        exact ⟨rfl, q2⟩
      · obtain rfl : false = rv := by rw [← RV.out]; simp [behV, g2, g3]
        subst g2
        have hd : decide (n1 < index) = false := decide_eq_false g3
        have HD := Aside0.mk hd
        clear hd
        go_wp2
        go_ret
        refine ⟨?_, q2⟩
        show Ending.returned (Value.bool (decide (n1 < index))) = _
        rw [HD.out]
    · obtain rfl : false = rv := by rw [← RV.out]; simp [behV, g1, g2]
      have hd : decide (t1 < term) = false := decide_eq_false g1
      have HD := Aside0.mk hd
      clear hd
      go_wp2
      go_ret
      refine ⟨?_, q2⟩
      show Ending.returned (Value.bool (decide (t1 < term))) = _
      rw [HD.out]
/-- The document's L, its entries. -/
def oneX : List Ent := [entX 3 1, entX 4 2, entX 5 2]
theorem one_lx {W : World} {b : Nat} (h : Lg W (oneSv b) b 0 oneE) : LX W (oneSv b).A b 0 oneE oneX := by
  refine ⟨rfl, fun _ => rfl, h.row, ?_, ?_, ?_, h.b, by decide⟩
  · intro j hj
    have : j < 3 := hj
    have : j = 0 ∨ j = 1 ∨ j = 2 := by omega
    rcases this with rfl | rfl | rfl
    · exact kEnt.K_of_M (ent_M W 0 (fun _ => True) 3 1)
    · exact kEnt.K_of_M (ent_M W 0 (fun _ => True) 4 2)
    · exact kEnt.K_of_M (ent_M W 0 (fun _ => True) 5 2)
  · intro x hx
    simp only [oneX, List.mem_cons, List.not_mem_nil, or_false] at hx
    rcases hx with rfl | rfl | rfl <;> simp [entX]
  · intro x hx
    simp only [oneX, List.mem_cons, List.not_mem_nil, or_false] at hx
    rcases hx with rfl | rfl | rfl <;> simp [entX]
theorem one_above (b : Nat) : aboveX (sndX (oneSv b) oneX) 4 9 = [entX 5 2] := by
  have h : checkB (oneSv b).si (itX oneX) = true := by show checkB 2 (itX oneX) = true; decide
  unfold sndX
  rw [h, if_pos rfl]
  have h2 : beyV oneX 4 = (2 : Nat) := beyV_hit oneX 4 2 (by decide) (by decide) (by
    intro j hj
    have : j = 0 ∨ j = 1 := by omega
    rcases this with rfl | rfl <;> decide)
  unfold aboveX
  rw [h2, if_neg (by omega)]
  rfl
theorem one_above_c (b : Nat) (w : World) (h : Lg w (oneSv b) b 0 oneE) : Calls Try.prog 25 #[.agg (oneSv b).cells, .int .i64 4, .int .i64 9] w fun e w' => ∃ v, e = .returned v ∧ kEnt.R 59 w' w.heap.size (fun _ => True) v [entX 5 2] ∧ Below w.heap.size w w' := by
  have := above_c (oneSv b) b 0 oneE oneX w (one_lx h) rfl (Nat.le_refl _) 4 9 (by decide)
  rw [one_above] at this
  exact this
theorem one_sound2 (b : Nat) : (oneSv b).sound oneE = oneSv b ∧ soundE (oneSv b) oneE = oneE := by
  have h : checkB (oneSv b).si (its oneE) = true := by show checkB 2 (its oneE) = true; decide
  unfold Sv.sound soundE
  rw [h]
  exact ⟨rfl, rfl⟩
theorem one_behind_c (b : Nat) (w : World) (h : Lg w (oneSv b) b 0 oneE) (i t : Int) (r : Bool) (hr : behV (5, 2) i t = r) : Calls Try.prog 30 #[.agg (oneSv b).cells, .int .i64 i, .int .i64 t] w fun e w' => e = .returned (.bool r) ∧ Below w.heap.size w w' := by
  have := behind_c (oneSv b) b 0 oneE w h i t
  rw [(one_sound2 b).1, (one_sound2 b).2, show lastV (oneSv b) oneE = (5, 2) from rfl, hr] at this
  exact this

set_option maxHeartbeats 1000000 in
set_option maxRecDepth 100000 in
theorem parts_c (w : World) : Calls Try.prog 29 #[] w fun e w' => e = .returned (.bool true) ∧ Below w.heap.size w w' := by
  have e42 : ∀ args w, (callFunc 42 args).run Try.prog w = .ok (.enter 42 args) w := enters_of Try.func42 (by kernel_rfl) rfl
  have e25 : ∀ args w, (callFunc 25 args).run Try.prog w = .ok (.enter 25 args) w := enters_of Try.func25 (by kernel_rfl) rfl
  have e30 : ∀ args w, (callFunc 30 args).run Try.prog w = .ok (.enter 30 args) w := enters_of Try.func30 (by kernel_rfl) rfl
  go_enter Try.func29, Try.ntmps29
  go_wp2_with fail
  refine (one_c w).mono ?_
  rintro e w1 ⟨b1, rfl, hb1, hL1⟩
  have q1 : Below w.heap.size w w1 := hb1
  clear hb1
  go_wp2_with fail
  refine (one_above_c b1 w1 hL1).mono ?_
  rintro e w2 ⟨v, rfl, hR, hb2⟩
  have q2 : Below w.heap.size w w2 := q1.trans (hb2.mono q1.size)
  clear hb2 q1 hL1
  obtain ⟨A, c, rfl, hc, hC⟩ := Kd.R_reads hR
  obtain ⟨b, off, css, hLX⟩ := lx_of_C hC rfl (by decide) (fun x hx => by simp at hx; subst hx; simp [entX]) (fun x hx => by simp at hx; subst hx; simp [entX])
  have hcl := hLX.len
  obtain rfl := hLX.A (by rw [hcl]; decide)
  have hrow := hLX.row 0 (by rw [hcl]; decide)
  obtain ⟨hE, hit, _⟩ := hLX.isE 0 (by rw [hcl]; decide)
  have c5 : w2.cell? ⟨b, off, none⟩ = some (.int .i64 5) := by
    have := hrow 0 _ hE.i0
    rw [hit] at this
    simpa [entX] using this
  have hl1 : ([entX 5 2] : List Ent).length = 1 := rfl
  rw [hl1]
  clear hR hC hLX hcl hrow hE hit hl1
  go_wp2_with fail
  refine (one_c w2).mono ?_
  rintro e w3 ⟨b3, rfl, hb3, hL3⟩
  have q3 : Below w.heap.size w w3 := q2.trans (hb3.mono q2.size)
  clear hb3 q2
  go_wp2_with fail
  refine (one_behind_c b3 w3 hL3 4 3 true (by decide)).mono ?_
  rintro e w4 ⟨rfl, hb4⟩
  have q4 : Below w.heap.size w w4 := q3.trans (hb4.mono q3.size)
  clear hb4 q3 hL3
  go_wp2_with fail
  refine (one_c w4).mono ?_
  rintro e w5 ⟨b5, rfl, hb5, hL5⟩
  have q5 : Below w.heap.size w w5 := q4.trans (hb5.mono q4.size)
  clear hb5 q4
  go_wp2_with fail
  refine (one_behind_c b5 w5 hL5 5 2 false (by decide)).mono ?_
  rintro e w6 ⟨rfl, hb6⟩
  have q6 : Below w.heap.size w w6 := q5.trans (hb6.mono q5.size)
  clear hb6 q5 hL5
  go_wp2
  go_ret
  exact ⟨rfl, q6⟩
end Go.Proofs.Ytpjachbmllklgaa.Rng
