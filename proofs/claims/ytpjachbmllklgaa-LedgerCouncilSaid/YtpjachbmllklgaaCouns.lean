/- What the document's L answers: councils. -/
import Derived.Test.YtpjachbmllklgaaCouL
import Derived.Test.YtpjachbmllklgaaRunP
import Derived.Test.YtpjachbmllklgaaCouR
namespace Go.Proofs.Ytpjachbmllklgaa.Rng
open Go.RowKit Go.Proofs.YtpjachbmllklgaaW.PrintWords Go.Proofs.Ytpjachbmllklgaa.Kinds Go.Proofs.Ytpjachbmllklgaa.PCou
set_option linter.unusedVariables false
set_option linter.unusedSimpArgs false
attribute [local go_sem] Oper.semAt_some

/-- The entry that turns the council. -/
def ctEnt (V : Value) : List Value := [.int .i64 4, .int .i64 2, .int .i64 3, .int .i64 0, .int .i64 0, .int .i64 0, .string ⟨#[]⟩, .string ⟨#[]⟩, .int .i64 0] ++ List.replicate 32 (.int .u8 0) ++ [V, .slice none 0 0]
def ctX : Ent := (4, 2, 3, (0, 0, 0, ⟨#[]⟩, ⟨#[]⟩, 0, List.replicate 32 0), ([1], []))
def couE (V : Value) : List (List Value) := [ent 3 1, ctEnt V, ent 5 2]
def couXs : List Ent := [entX 3 1, ctX, entX 5 2]
theorem ctEnt_K {W : World} {p : Nat} (h : W.cell? ⟨p, 0, none⟩ = some (.int .i64 1)) : kEnt.K W ctX (ctEnt (.slice (some ⟨p, 0, none⟩) 1 1)) := by
  refine ⟨[.int .i64 4], _, rfl, rfl, [.int .i64 2], _, rfl, rfl, [.int .i64 3], _, rfl, rfl, [.int .i64 0, .int .i64 0, .int .i64 0, .string ⟨#[]⟩, .string ⟨#[]⟩, .int .i64 0] ++ List.replicate 32 (.int .u8 0), [.slice (some ⟨p, 0, none⟩) 1 1, .slice none 0 0], rfl, ?_, [.slice (some ⟨p, 0, none⟩) 1 1], [.slice none 0 0], rfl, ⟨some ⟨p, 0, none⟩, 1, rfl, Nat.le_refl _, ?_⟩, ⟨none, 0, rfl, Nat.le_refl _, C_none W⟩⟩
  · refine ⟨[.int .i64 0], _, rfl, rfl, [.int .i64 0], _, rfl, rfl, [.int .i64 0], _, rfl, rfl, [.string ⟨#[]⟩], _, rfl, rfl, [.string ⟨#[]⟩], _, rfl, rfl, [.int .i64 0], List.replicate 32 (.int .u8 0), rfl, rfl, ?_⟩
    exact Kd.K_of_M _ (Kd.arr_of_cells (w := W) (base := 0) (ok := fun _ => True) (n := 32) (xs := List.replicate 32 0) (by simp))
  · refine ⟨rfl, by decide, fun _ => ⟨_, rfl, fun j q hj => ?_⟩⟩
    have hlt := (List.getElem?_eq_some_iff.1 hj).1
    have : j = 0 := by have : j < 1 := hlt; omega
    subst this
    have hq : q = 1 := by
      have : ([1] : List Int)[0]? = some q := hj
      simpa using this.symm
    subst hq
    refine ⟨[.int .i64 1], rfl, rfl, fun i u hi => ?_⟩
    have hi0 : i = 0 := by have : i < 1 := (List.getElem?_eq_some_iff.1 hi).1; omega
    subst hi0
    have hu : Value.int .i64 1 = u := by simpa using hi
    subst hu
    exact h
theorem LX.C {W : World} {A : Option Addr} {b off : Nat} {css : List (List Value)} {xs : List Ent} (h : LX W A b off css xs) : kEnt.C W A xs.length xs := by
  refine ⟨rfl, by have := h.small; have := h.len; omega, fun h0 => ⟨_, h.A (by have := h.len; omega), fun j p hj => ?_⟩⟩
  have hlt := (List.getElem?_eq_some_iff.1 hj).1
  have hp : xs[j]! = p := by
    rw [getElem!_pos xs j hlt]
    exact (List.getElem?_eq_some_iff.1 hj).2
  have hl := h.len
  have hK := h.K j (by omega)
  rw [hp] at hK
  refine ⟨css[j]!, kEnt.K_len hK, hK, fun i u hi => ?_⟩
  rw [Addr.add_mid]
  have := h.row j (by omega) i u hi
  rw [← Nat.add_assoc]
  exact this
theorem below_setCells2 {B g : Nat} (hg : B ≤ g) {w : World} : ∀ (vs : List Value) (o : Nat) (W : World), Below B w W → Below B w (W.setCells g o vs)
  | [], _, _, h => h
  | v :: vs, o, W, h => below_setCells2 hg vs (o + 1) _ (h.setCell (p := ⟨g, o, none⟩) hg v)
theorem heap_setCells_o {g k : Nat} (hne : k ≠ g) : ∀ (vs : List Value) (o : Nat) (W : World), (W.setCells g o vs).heap[k]? = W.heap[k]?
  | [], _, _ => rfl
  | v :: vs, o, W => (heap_setCells_o hne vs (o + 1) _).trans (heap_set_other hne o v)
theorem cou_its (V : Value) : its (couE V) = [(3, 1), (4, 2), (5, 2)] := rfl
theorem cou_check (b : Nat) (V : Value) : checkB (oneSv b).si (its (couE V)) = true := by
  rw [cou_its]
  show checkB 2 [(3, 1), (4, 2), (5, 2)] = true
  decide
theorem cou_sound (b : Nat) (V : Value) : (oneSv b).sound (couE V) = oneSv b ∧ soundE (oneSv b) (couE V) = couE V := by
  unfold Sv.sound soundE
  rw [cou_check]
  exact ⟨rfl, rfl⟩
theorem cou_run (b : Nat) (V : Value) (i r : Int) (h : runW 2 1 [(3, 1), (4, 2), (5, 2)] i = r) : runV (oneSv b) (couE V) i = r := by
  rw [runV_eq, (cou_sound b V).1, (cou_sound b V).2, cou_its]
  exact h
theorem cou_snd (b : Nat) : sndX (oneSv b) couXs = couXs := by
  unfold sndX
  rw [show checkB (oneSv b).si (itX couXs) = true from by show checkB 2 [(3, 1), (4, 2), (5, 2)] = true; decide]
  rfl
def cz : (List Int × List Int) × Int := (([], []), 2)
theorem cou_four : couX couXs 4 cz 3 = (([1], []), 4) := rfl
theorem cou_three : couX couXs 3 cz 3 = (([], []), 2) := rfl
def couSaved : Saved := (0, 0, (2, 1, ([], []), ⟨#[]⟩), couXs, [])
theorem cou_sndC (b : Nat) : sndC (oneSv b) couSaved = ([], []) := by
  unfold sndC
  split <;> rfl
theorem cou_lx {W : World} {b p : Nat} (hr : Row W b 0 (couE (.slice (some ⟨p, 0, none⟩) 1 1))) (hb : b < W.heap.size) (h : W.cell? ⟨p, 0, none⟩ = some (.int .i64 1)) : LX W (oneSv b).A b 0 (couE (.slice (some ⟨p, 0, none⟩) 1 1)) couXs := by
  refine ⟨rfl, fun _ => rfl, hr, ?_, ?_, ?_, .inl hb, (show 3 ≤ 1000000 by decide)⟩
  · intro j hj
    have : j < 3 := hj
    have : j = 0 ∨ j = 1 ∨ j = 2 := by omega
    rcases this with rfl | rfl | rfl
    · exact kEnt.K_of_M (ent_M W 0 (fun _ => True) 3 1)
    · exact ctEnt_K h
    · exact kEnt.K_of_M (ent_M W 0 (fun _ => True) 5 2)
  · intro x hx
    simp only [couXs, List.mem_cons, List.not_mem_nil, or_false] at hx
    rcases hx with rfl | rfl | rfl <;> simp [entX, ctX]
  · intro x hx
    simp only [couXs, List.mem_cons, List.not_mem_nil, or_false] at hx
    rcases hx with rfl | rfl | rfl <;> simp [entX, ctX]
theorem cou_sk {W : World} {b p : Nat} (h : LX W (oneSv b).A b 0 (couE (.slice (some ⟨p, 0, none⟩) 1 1)) couXs) : SK W (oneSv b) couSaved :=
  ⟨rfl, rfl, rfl, rfl, rfl, Nat.le_refl _, C_none W, rfl, Nat.le_refl _, C_none W, rfl, rfl, Nat.le_refl _, h.C, rfl, Nat.le_refl _, ⟨rfl, by decide, fun g => absurd g (by decide)⟩⟩
set_option maxHeartbeats 2000000 in
set_option maxRecDepth 100000 in
theorem one_c2 (w : World) :
    Calls Try.prog 42 #[] w fun e w' => e = .returned (.agg (oneSv (w.heap.size + 1)).cells) ∧ Below w.heap.size w w' ∧ w'.heap[w.heap.size + 1]? = some (.cells oneE.flatten.toArray 59 (0, 0)) := by
  have hi30 : ∀ cells : Array Value, cells.size = 9 → (Try.prog.info? 30).map (·.size) = some cells.size := fun c hc => by rw [hc]; exact size30
  go_enter Try.func42, Try.ntmps42
  go_wp2
  refine bodyPost_ret (results_cell_row rfl _ _ w.heap.size 30 _ (0, 0) _ rfl (blk_alloc (blk_new w _) _) Try.underlying30 rfl (hi30 _ rfl)) rfl ?_
  refine ⟨rfl, ((Below.refl _ w).alloc (Nat.le_refl _) _).alloc (by simp) _, ?_⟩
  have := blk_new (w.alloc (.cells #[.int .i64 0, .int .i64 0, .int .i64 2, .int .i64 1, .slice none 0 0, .slice none 0 0, .string ⟨#[]⟩, .slice (some ⟨w.heap.size + 1, 0, none⟩) 3 3, .slice none 0 0] 30)) (.cells oneE.flatten.toArray 59)
  rw [World.size_alloc] at this
  exact this
/-- L, its second entry turned. -/
theorem cou_row {W : World} {b : Nat} (V : Value) (h : W.heap[b]? = some (.cells oneE.flatten.toArray 59 (0, 0))) : W.there b 43 (ctEnt V).length ∧ Row (W.setCells b 43 (ctEnt V)) b 0 (couE V) := by
  have hT : W.there b 43 (ctEnt V).length := fun j hj => by
    have hj2 : j < 43 := hj
    have hs : 43 + j < oneE.flatten.toArray.size := by show 43 + j < 129; omega
    constructor
    · simp only [World.cell?, h]
      rw [Array.getElem?_eq_getElem hs]
      rfl
    · simp [World.frozen?, h]
  have hR : Row W b 0 oneE := row_flat h (fun c hc => by
    simp only [oneE, List.mem_cons, List.not_mem_nil, or_false] at hc
    rcases hc with rfl | rfl | rfl <;> rfl)
  refine ⟨hT, fun j hj => ?_⟩
  have : j < 3 := hj
  have : j = 0 ∨ j = 1 ∨ j = 2 := by omega
  rcases this with rfl | rfl | rfl
  · exact World.rangeAt_setCells_apart (hR 0 (by decide)) b 43 _ (.inr (.inl (by decide)))
  · exact World.rangeAt_setCells_same W b 43 _ hT
  · exact World.rangeAt_setCells_apart (hR 2 (by decide)) b 43 _ (.inr (.inr (by show 43 + 43 ≤ 0 + 2 * 43; decide)))

set_option maxHeartbeats 2000000 in
set_option maxRecDepth 100000 in
theorem councils_c (w : World) : Calls Try.prog 21 #[] w fun e w' => e = .returned (.bool true) ∧ Below w.heap.size w w' := by
  have e42 : ∀ args w, (callFunc 42 args).run Try.prog w = .ok (.enter 42 args) w := enters_of Try.func42 (by kernel_rfl) rfl
  have e18 : ∀ args w, (callFunc 18 args).run Try.prog w = .ok (.enter 18 args) w := enters_of Try.func18 (by kernel_rfl) rfl
  have e22 : ∀ args w, (callFunc 22 args).run Try.prog w = .ok (.enter 22 args) w := enters_of Try.func22 (by kernel_rfl) rfl
  have hi30 : ∀ cells : Array Value, cells.size = 9 → (Try.prog.info? 30).map (·.size) = some cells.size := fun c hc => by rw [hc]; exact size30
  go_enter Try.func21, Try.ntmps21
  go_wp2_with fail
  refine (one_c2 w).mono ?_
  rintro e w1 ⟨rfl, hb1, hk1⟩
  have hbw : w.heap.size + 1 < w1.heap.size := (Array.getElem?_eq_some_iff.1 hk1).1
  generalize hb : w.heap.size + 1 = b at *
  have hbb : w.heap.size ≤ b := by omega
  have nw1 := blk_new w1 (.cells (oneSv b).cells 30)
  have c7 : (w1.alloc (.cells (oneSv b).cells 30)).cell? ⟨w1.heap.size, 7, none⟩ = some (.slice (some ⟨b, 0, none⟩) 3 3) := by
    simp only [World.cell?, nw1]
    rfl
  obtain ⟨hT, hRow⟩ := cou_row (.slice (some ⟨w1.heap.size + 1, 0, none⟩) 1 1) (blk_alloc (blk_alloc hk1 (.cells (oneSv b).cells 30)) (.cells #[.int .i64 1] 3))
  have hlit : ctEnt (.slice (some ⟨w1.heap.size + 1, 0, none⟩) 1 1) = [.int .i64 4, .int .i64 2, .int .i64 3, .int .i64 0, .int .i64 0, .int .i64 0, .string ⟨#[]⟩, .string ⟨#[]⟩, .int .i64 0, .int .u8 0, .int .u8 0, .int .u8 0, .int .u8 0, .int .u8 0, .int .u8 0, .int .u8 0, .int .u8 0, .int .u8 0, .int .u8 0, .int .u8 0, .int .u8 0, .int .u8 0, .int .u8 0, .int .u8 0, .int .u8 0, .int .u8 0, .int .u8 0, .int .u8 0, .int .u8 0, .int .u8 0, .int .u8 0, .int .u8 0, .int .u8 0, .int .u8 0, .int .u8 0, .int .u8 0, .int .u8 0, .int .u8 0, .int .u8 0, .int .u8 0, .int .u8 0, .slice (some ⟨w1.heap.size + 1, 0, none⟩) 1 1, .slice none 0 0] := rfl
  obtain ⟨ca, hca⟩ : ∃ ca : Array Value, #[.int .i64 4, .int .i64 2, .int .i64 3, .int .i64 0, .int .i64 0, .int .i64 0, .string ⟨#[]⟩, .string ⟨#[]⟩, .int .i64 0, .int .u8 0, .int .u8 0, .int .u8 0, .int .u8 0, .int .u8 0, .int .u8 0, .int .u8 0, .int .u8 0, .int .u8 0, .int .u8 0, .int .u8 0, .int .u8 0, .int .u8 0, .int .u8 0, .int .u8 0, .int .u8 0, .int .u8 0, .int .u8 0, .int .u8 0, .int .u8 0, .int .u8 0, .int .u8 0, .int .u8 0, .int .u8 0, .int .u8 0, .int .u8 0, .int .u8 0, .int .u8 0, .int .u8 0, .int .u8 0, .int .u8 0, .int .u8 0, .slice (some ⟨w1.heap.size + 1, 0, none⟩) 1 1, .slice none 0 0] = ca := ⟨_, rfl⟩
  have hcl : ca.toList = ctEnt (.slice (some ⟨w1.heap.size + 1, 0, none⟩) 1 1) := by rw [← hca, hlit]
  have hcs : ca.size = 43 := by rw [← hca]; rfl
  have hi59 : (Try.prog.info? 59).map (·.size) = some ca.size := by rw [hcs]; exact size59
  have h1c : ca.all (·.oneCell') = true := by
    rw [Array.all_eq_true_iff_forall_mem]
    intro u hu
    have hu' : u ∈ ctEnt (.slice (some ⟨w1.heap.size + 1, 0, none⟩) 1 1) := by rw [← hcl]; simpa using hu
    simp only [ctEnt, List.mem_append, List.mem_cons, List.mem_replicate, List.not_mem_nil, or_false] at hu'
    rcases hu' with ((rfl | rfl | rfl | rfl | rfl | rfl | rfl | rfl | rfl) | ⟨_, rfl⟩) | (rfl | rfl) <;> rfl
  have hT : ((w1.alloc (.cells (oneSv b).cells 30)).alloc (.cells #[.int .i64 1] 3)).there b 43 ca.size := by rw [hcs]; exact hT
  rw [← hcl] at hRow
  have HCA := Aside0.mk hca
  clear hca hlit hcl hcs
  have nb := blk_alloc nw1 (.cells #[.int .i64 1] 3)
  have np := blk_new (w1.alloc (.cells (oneSv b).cells 30)) (.cells #[.int .i64 1] 3)
  rw [World.size_alloc] at np
  have hq : Below w.heap.size w ((w1.alloc (.cells (oneSv b).cells 30)).alloc (.cells #[.int .i64 1] 3)) := (hb1.alloc hb1.size _).alloc (by have := hb1.size; simp; omega) _
  have hsz : ((w1.alloc (.cells (oneSv b).cells 30)).alloc (.cells #[.int .i64 1] 3)).heap.size = w1.heap.size + 2 := by simp
  have HT := Aside0.mk hT
  have HRow := Aside0.mk hRow
  have HB := Aside0.mk nb
  have HP := Aside0.mk np
  have HQ := Aside0.mk hq
  have HSZ := Aside0.mk hsz
  have HW1 := Aside0.mk hb1
  clear hT hRow nb np hq hsz hb1 nw1 hk1
  have hb1' : b < w1.heap.size := by omega
  have zb : (((w1.alloc (.cells (oneSv b).cells 30)).alloc (.cells #[.int .i64 1] 3)).setCells b 43 ca.toList).heap[w1.heap.size]? = some (.cells (oneSv b).cells 30 (0, 0)) := (heap_setCells_o (by omega) _ _ _).trans HB.out
  have zp : (((w1.alloc (.cells (oneSv b).cells 30)).alloc (.cells #[.int .i64 1] 3)).setCells b 43 ca.toList).heap[w1.heap.size + 1]? = some (.cells #[.int .i64 1] 3 (0, 0)) := (heap_setCells_o (by omega) _ _ _).trans HP.out
  have qz : Below w.heap.size w (((w1.alloc (.cells (oneSv b).cells 30)).alloc (.cells #[.int .i64 1] 3)).setCells b 43 ca.toList) := below_setCells2 hbb _ _ _ HQ.out
  have hbz : b < (((w1.alloc (.cells (oneSv b).cells 30)).alloc (.cells #[.int .i64 1] 3)).setCells b 43 ca.toList).heap.size := Nat.lt_of_lt_of_le (by omega) (below_setCells2 (Nat.le_refl b) ca.toList 43 _ (show Below b w1 _ from ((Below.refl w1.heap.size w1).alloc (Nat.le_refl _) _ |>.alloc (by simp) _).mono (by omega))).size
  go_wp2_with (first | (refine wpList_store_new rfl 30 (.tmp 1) (.tmp 6) rfl (oneSv b).cells _ 30 rfl rfl (hi30 _ rfl) rfl (sound_cells_one _) ?_) | (rw [HCA.out]; refine wpList_store_mid rfl 59 (.tmp 12) (.tmp 11) rfl b 43 ca rfl rfl HT.out hi59 h1c ?_) | (refine wpList_load_row rfl 30 (.tmp 1) rfl w1.heap.size rfl 30 _ (0, 0) _ zb Try.underlying30 rfl (hi30 _ rfl) ?_))
  have hRz := HRow.out
  generalize (((w1.alloc (.cells (oneSv b).cells 30)).alloc (.cells #[.int .i64 1] 3)).setCells b 43 ca.toList) = Z at zb zp qz hbz hRz ⊢
  generalize w1.heap.size = p1 at *
  clear HT HRow HB HP HQ HSZ HW1 HCA hi59 h1c c7 hbw hb1'
  have hp1 : p1 < Z.heap.size := (Array.getElem?_eq_some_iff.1 zb).1
  have hLZ := cou_lx hRz hbz (cell_heap zp rfl)
  clear hRz zp hbz
  have C18 : Aside0 (∀ W, Below Z.heap.size Z W → ∀ (i : Int) (cv : (List Int × List Int) × Int), couX couXs i cz 3 = cv → Calls Try.prog 18 #[.agg (oneSv b).cells, .int .i64 i] W fun e w' => ∃ V L : Value, e = .returned (.tuple #[.agg #[V, L], .int .i64 cv.2]) ∧ (Kd.int .i64).R 3 w' W.heap.size (fun _ => True) V cv.1.1 ∧ (Kd.int .i64).R 3 w' W.heap.size (fun _ => True) L cv.1.2 ∧ Below W.heap.size W w') :=
    ⟨fun W hW i cv hcv => by
      have hL := hLZ.below hW
      have := council_c (oneSv b) couSaved b 0 _ W (cou_sk hL) hL (by decide) (by decide) i
      rw [show couSaved.2.2.2.1 = couXs from rfl, cou_snd, cou_sndC, (cou_sound b _).1, show ((([], []), (oneSv b).si) : (List Int × List Int) × Int) = cz from rfl, show couXs.length = 3 from rfl, hcv] at this
      exact this⟩
  have C22 : Aside0 (∀ W, Below Z.heap.size Z W → ∀ i r : Int, runW 2 1 [(3, 1), (4, 2), (5, 2)] i = r → Calls Try.prog 22 #[.agg (oneSv b).cells, .int .i64 i] W fun e w' => e = .returned (.int .i64 r) ∧ Below W.heap.size W w') :=
    ⟨fun W hW i r hr => by
      have := run_c (oneSv b) b 0 _ W ((hLZ.below hW).lg rfl) i
      rw [cou_run b _ i r hr] at this
      exact this⟩
  clear hLZ
  refine (C18.out Z (Below.refl _ _) 4 _ cou_four).mono ?_
  rintro e w2 ⟨V, L, rfl, hV, hL, hb2⟩
  obtain ⟨Av, cv, rfl⟩ := Kd.R_slice hV
  obtain ⟨Al, cl, rfl⟩ := Kd.R_slice hL
  have q2 : Below Z.heap.size Z w2 := hb2
  have z2 := (q2.block _ hp1).trans zb
  clear hV hL hb2 zb
  have hcl1 : ([1] : List Int).length = 1 := rfl
  dsimp only
  rw [hcl1]
  obtain ⟨l0, hl0⟩ : ∃ n : Nat, ([] : List Int).length = n := ⟨_, rfl⟩
  rw [hl0]
  have z3 := blk_alloc z2 (.cells #[.slice Av 1 cv, .slice Al l0 cl] 24)
  have g3 := blk_new w2 (.cells #[.slice Av 1 cv, .slice Al l0 cl] 24)
  have q3 : Below Z.heap.size Z (w2.alloc (.cells #[.slice Av 1 cv, .slice Al l0 cl] 24)) := q2.alloc q2.size _
  go_wp2_with (refine wpList_load_row rfl 30 (.tmp 1) rfl p1 rfl 30 _ (0, 0) _ z3 Try.underlying30 rfl (hi30 _ rfl) ?_)
  generalize (w2.alloc (.cells #[.slice Av 1 cv, .slice Al l0 cl] 24)) = w3 at z3 g3 q3 ⊢
  generalize w2.heap.size = p2 at *
  clear z2 q2 w2
  refine (C18.out w3 q3 3 _ cou_three).mono ?_
  rintro e w4 ⟨V, L, rfl, hV, hL, hb4⟩
  obtain ⟨Aw, cw, rfl⟩ := Kd.R_slice hV
  obtain ⟨Am, cm, rfl⟩ := Kd.R_slice hL
  have hp2 : p2 < w3.heap.size := (Array.getElem?_eq_some_iff.1 g3).1
  have hp1' : p1 < w3.heap.size := (Array.getElem?_eq_some_iff.1 z3).1
  have z4 := (hb4.block _ hp1').trans z3
  have g4 := (hb4.block _ hp2).trans g3
  have q4 : Below Z.heap.size Z w4 := q3.trans (hb4.mono q3.size)
  clear hV hL hb4 z3 g3 q3 hp1' hp2 C18
  dsimp only
  have z5 := blk_alloc z4 (.cells #[.slice Aw ([] : List Int).length cw, .slice Am ([] : List Int).length cm] 24)
  have g5 := blk_alloc g4 (.cells #[.slice Aw ([] : List Int).length cw, .slice Am ([] : List Int).length cm] 24)
  have q5 : Below Z.heap.size Z (w4.alloc (.cells #[.slice Aw ([] : List Int).length cw, .slice Am ([] : List Int).length cm] 24)) := q4.alloc q4.size _
  rw [hl0] at z5 g5 q5 ⊢
  have c5 : (w4.alloc (.cells #[.slice Aw l0 cw, .slice Am l0 cm] 24)).cell? ⟨p2, 0, none⟩ = some (.slice Av 1 cv) := cell_heap g5 rfl
  go_wp2_with (refine wpList_load_row_if (by rfl) 30 (.tmp 1) rfl p1 rfl 30 _ (0, 0) _ z5 Try.underlying30 rfl (hi30 _ rfl) ?_)
  generalize (w4.alloc (.cells #[.slice Aw l0 cw, .slice Am l0 cm] 24)) = w5 at z5 g5 q5 c5 ⊢
  generalize w4.heap.size = p4 at *
  clear z4 g4 q4
  refine (C22.out w5 q5 9 4 (by decide)).mono ?_
  rintro e w6 ⟨rfl, hb6⟩
  have hp1' : p1 < w5.heap.size := (Array.getElem?_eq_some_iff.1 z5).1
  have z6 := (hb6.block _ hp1').trans z5
  have q6 : Below Z.heap.size Z w6 := q5.trans (hb6.mono q5.size)
  clear hb6 z5 g5 q5 c5 hp1'
  go_wp2_with (refine wpList_load_row_if (by rfl) 30 (.tmp 1) rfl p1 rfl 30 _ (0, 0) _ z6 Try.underlying30 rfl (hi30 _ rfl) ?_)
  refine (C22.out w6 q6 3 2 (by decide)).mono ?_
  rintro e w7 ⟨rfl, hb7⟩
  have q7 : Below Z.heap.size Z w7 := q6.trans (hb7.mono q6.size)
  go_wp2_with fail
  go_ret
  exact ⟨rfl, qz.trans (q7.mono qz.size)⟩
end Go.Proofs.Ytpjachbmllklgaa.Rng
