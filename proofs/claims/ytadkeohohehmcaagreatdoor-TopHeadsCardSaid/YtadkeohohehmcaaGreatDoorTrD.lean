/- Several texts in one. -/
import Derived.Test.YtadkeohohehmcaaGreatDoorTrC
import Derived.Sort.Grow
import Derived.Test.YtadkeohohehmcaaGreatDoorTrA
import Derived.Test.YtadkeohohehmcaaGreatDoorDiA
import Derived.Shelf.SlSortCmp.NoneTotal
section
/- Bytes are compared: slices.Compare. -/
namespace Go.Proofs.YtadkeohohehmcaaGreatDoor.Top
open Go.RowKit Go.Proofs.YtadkeohohehmcaaGreatDoorW.PrintWords Go.Proofs.YtadkeohohehmcaaGreatDoorW.PrintLast Go.Proofs.YtadkeohohehmcaaGreatDoorW.PrintMore Go.Proofs.YtadkeohohehmcaaGreatDoor.PTop
set_option linter.unusedVariables false
set_option linter.unusedSimpArgs false
attribute [local go_sem] Oper.semAt_some

def cmpI (x y : Int) : Int := if x < y then -1 else if y < x then 1 else 0
def lexC : List Int → List Int → Int
  | [], [] => 0
  | [], _ :: _ => -1
  | _ :: _, [] => 1
  | x :: a, y :: b => if cmpI x y ≠ 0 then cmpI x y else lexC a b
theorem cmp_c (x y : Int) (w : World) : Calls Tryz.prog 93 #[.int .u8 x, .int .u8 y] w fun e w' => e = .returned (.int .i64 (cmpI x y)) ∧ w' = w := by
  by_cases h1 : x < y
  · have e : cmpI x y = -1 := by unfold cmpI; rw [if_pos h1]
    rw [e]
    go_enter Tryz.func93, Tryz.ntmps93
    go_wp2
    go_ret
    exact ⟨rfl, rfl⟩
  · by_cases h2 : y < x
    · have e : cmpI x y = 1 := by unfold cmpI; rw [if_neg h1, if_pos h2]
      rw [e]
      go_enter Tryz.func93, Tryz.ntmps93
      go_wp2
      go_ret
      exact ⟨rfl, rfl⟩
    · have e : cmpI x y = 0 := by unfold cmpI; rw [if_neg h1, if_neg h2]
      rw [e]
      go_enter Tryz.func93, Tryz.ntmps93
      go_wp2
      go_ret
      exact ⟨rfl, rfl⟩

theorem lexC_step (a b : List Int) (h : a.length = b.length) (k : Nat) (hk : k < a.length) : lexC (a.drop k) (b.drop k) = if cmpI a[k]! b[k]! ≠ 0 then cmpI a[k]! b[k]! else lexC (a.drop (k + 1)) (b.drop (k + 1)) := by
  rw [List.drop_eq_getElem_cons hk, List.drop_eq_getElem_cons (show k < b.length by omega), lexC, getElem!_pos a k hk, getElem!_pos b k (by omega)]
set_option maxHeartbeats 2000000 in
set_option maxRecDepth 100000 in
theorem compare_c (a b : List Int) (ha : a.length = 32) (hb : b.length = 32) (ba ca bb cb : Nat) (w : World) (RA : ∀ j, j < 32 → w.cell? ⟨ba, j, none⟩ = some (.int .u8 a[j]!)) (RB : ∀ j, j < 32 → w.cell? ⟨bb, j, none⟩ = some (.int .u8 b[j]!)) :
    Calls Tryz.prog 76 #[.slice (some ⟨ba, 0, none⟩) 32 ca, .slice (some ⟨bb, 0, none⟩) 32 cb] w fun e w' => e = .returned (.int .i64 (lexC a b)) ∧ w' = w := by
  have HA := Aside0.mk RA
  have HB := Aside0.mk RB
  have L0 : Aside0 (lexC (a.drop 0) (b.drop 0) = lexC a b) := ⟨rfl⟩
  have L32 : Aside0 (lexC (a.drop 32) (b.drop 32) = 0) := ⟨by rw [List.drop_eq_nil_of_le (by omega), List.drop_eq_nil_of_le (by omega)]; rfl⟩
  have LS := Aside0.mk (lexC_step a b (by omega))
  clear RA RB
  generalize lexC a b = R at *
  go_enter Tryz.func76, Tryz.ntmps76
  go_wp2_with fail
  go_loopg [11] 32 (fun gg s11 wr => ∃ k : Nat, k ≤ 32 ∧ 32 - k ≤ gg ∧ s11 = .int .i64 k ∧ wr = w ∧ Aside0 (lexC (a.drop k) (b.drop k) = R))
  case atStart => exact ⟨0, by omega, by omega, rfl, rfl, L0⟩
  case round =>
    obtain ⟨k, hk, hgg, rfl, hwr, E⟩ := hrel
    replace hwr := hwr.symm
    subst hwr
    by_cases hlt : k < 32
    · have hltz : (k : Int) < 32 := by omega
      have hnge : ¬ (32 : Int) ≤ (k : Int) := by omega
      have h0 : (0 : Int) ≤ (k : Int) := by omega
      have cA := HA.out k hlt
      have cB := HB.out k hlt
      have ST := Aside0.mk (LS.out k (by omega))
      generalize a[k]! = x at *
      generalize b[k]! = y at *
      have CC := Aside0.mk (cmp_c x y w)
      have EC := Aside0.mk (E.out.symm.trans ST.out)
      generalize cmpI x y = z at *
      clear ST
      by_cases hz : z = 0
      · have E2 : Aside0 (lexC (a.drop (k + 1)) (b.drop (k + 1)) = R) := ⟨by rw [EC.out, if_neg (fun h => h hz)]⟩
        clear EC E
        subst hz
        go_wp2_with (go_at_call 93; refine CC.out.mono ?_; rintro e w' ⟨rfl, hw⟩; replace hw := hw.symm; subst hw)
        go_roundg (32 - (k + 1))
        case measure => omega
        case rel => exact ⟨k + 1, by omega, by omega, by go_num, rfl, E2⟩
      · have E2 : Aside0 (R = z) := ⟨by rw [EC.out, if_pos hz]⟩
        have hzb : (z != 0) = true := by simp [hz]
        clear EC E
        go_wp2_with (go_at_call 93; refine CC.out.mono ?_; rintro e w' ⟨rfl, hw⟩; replace hw := hw.symm; subst hw)
        go_ret
        exact ⟨by rw [E2.out]; rfl, rfl⟩
    · have hltz : ¬ (k : Int) < 32 := by omega
      obtain rfl : k = 32 := by omega
      have E2 : Aside0 (R = 0) := ⟨E.out.symm.trans L32.out⟩
      clear E
      go_wp2_with fail
      go_ret
      exact ⟨by rw [E2.out]; rfl, rfl⟩
end Go.Proofs.YtadkeohohehmcaaGreatDoor.Top
end
section
/- Leaves are compared by their paths. -/
namespace Go.Proofs.YtadkeohohehmcaaGreatDoor.Top
open Go.RowKit Go.Proofs.YtadkeohohehmcaaGreatDoorW.PrintWords Go.Proofs.YtadkeohohehmcaaGreatDoorW.PrintLast Go.Proofs.YtadkeohohehmcaaGreatDoorW.PrintMore Go.Proofs.YtadkeohohehmcaaGreatDoor.PTop
set_option linter.unusedVariables false
set_option linter.unusedSimpArgs false
attribute [local go_sem] Oper.semAt_some

set_option maxHeartbeats 2000000 in
set_option maxRecDepth 100000 in
theorem cmpleaf_c (p v q u : List Int) (hp : p.length = 32) (hv : v.length = 32) (hq : q.length = 32) (hu : u.length = 32) (w : World) :
    Calls Tryz.prog 75 #[dv (p ++ v), dv (q ++ u)] w fun e w' => e = .returned (.int .i64 (lexC p q)) ∧ Below w.heap.size w w' ∧ ∃ n os', w' = Go.Sort.grow (w.drewN n) os' := by
  have hi1 := info89 (p ++ v) (by rw [List.length_append, hp, hv])
  have hi2 := info89 (q ++ u) (by rw [List.length_append, hq, hu])
  have h1 := dig_one (p ++ v)
  have h2 := dig_one (q ++ u)
  have k0 := blk_alloc (blk_new w (.cells ((p ++ v).map (Value.int .u8)).toArray 89)) (.cells ((q ++ u).map (Value.int .u8)).toArray 89)
  have k1 : ((w.alloc (.cells ((p ++ v).map (Value.int .u8)).toArray 89)).alloc (.cells ((q ++ u).map (Value.int .u8)).toArray 89)).heap[w.heap.size + 1]? = some (.cells ((q ++ u).map (Value.int .u8)).toArray 89 (0, 0)) := by simpa using blk_new (w.alloc (.cells ((p ++ v).map (Value.int .u8)).toArray 89)) (.cells ((q ++ u).map (Value.int .u8)).toArray 89)
  have b0 : Below w.heap.size w ((w.alloc (.cells ((p ++ v).map (Value.int .u8)).toArray 89)).alloc (.cells ((q ++ u).map (Value.int .u8)).toArray 89)) := ((Below.refl _ w).alloc (Nat.le_refl _) _).alloc (by simp) _
  have CC : Aside0 (Calls Tryz.prog 76 #[.slice (some ⟨w.heap.size, 0, none⟩) 32 32, .slice (some ⟨w.heap.size + 1, 0, none⟩) 32 32] ((w.alloc (.cells ((p ++ v).map (Value.int .u8)).toArray 89)).alloc (.cells ((q ++ u).map (Value.int .u8)).toArray 89)).drew fun e w' => e = .returned (.int .i64 (lexC p q)) ∧ w' = ((w.alloc (.cells ((p ++ v).map (Value.int .u8)).toArray 89)).alloc (.cells ((q ++ u).map (Value.int .u8)).toArray 89)).drew) := ⟨by
    refine compare_c p q hp hq w.heap.size 32 (w.heap.size + 1) 32 _ (fun j hj => ?_) (fun j hj => ?_)
    · refine cell_in (show _ = _ from k0) ?_
      rw [List.getElem?_map, List.getElem?_append_left (by omega), List.getElem?_eq_getElem (by omega), getElem!_pos p j (by omega)]
      rfl
    · refine cell_in (show _ = _ from k1) ?_
      rw [List.getElem?_map, List.getElem?_append_left (by omega), List.getElem?_eq_getElem (by omega), getElem!_pos q j (by omega)]
      rfl⟩
  unfold dv
  generalize lexC p q = R at *
  generalize ((p ++ v).map (Value.int .u8)).toArray = x at *
  generalize ((q ++ u).map (Value.int .u8)).toArray = y at *
  have hsa := fun W => slice31 w.heap.size W
  have hsb := fun W => slice31 (w.heap.size + 1) W
  go_enter Tryz.func75, Tryz.ntmps75
  go_upto_region 1 with fail
  refine wp_region_held_drew (S := (fun W => W = ((w.alloc (.cells x 89)).alloc (.cells y 89)).drew)) (by kernel_rfl) (by rfl) (fun hHeld => ?_)
  refine wpAnyH_take (i := 0) (oi := _) (v := ?_) rfl (by kernel_rfl) (by kernel_rfl) (by kernel_rfl) (fun _ _ _ h => h) (Or.inl ⟨by rfl, ?_⟩) (by assumption) ?_
  rotate_left
  · (intro w hSw; (try dsimp only at hSw); subst hSw; go_simp; (try with_reducible rfl))
  (try simp only [uA, uB, uC, uD, uE, uF, uG, uH])
  refine wpAnyH_take (i := 1) (oi := _) (v := ?_) rfl (by kernel_rfl) (by kernel_rfl) (by kernel_rfl) (fun _ _ _ h => h) (Or.inl ⟨by rfl, ?_⟩) (by assumption) ?_
  rotate_left
  · (intro w hSw; (try dsimp only at hSw); subst hSw; go_simp; (try with_reducible rfl))
  (try simp only [uA, uB, uC, uD, uE, uF, uG, uH])
  refine wpAnyH_take (i := 2) (oi := _) (v := ?_) rfl (by kernel_rfl) (by kernel_rfl) (by kernel_rfl) (fun _ _ _ h => h) (Or.inl ⟨by rfl, ?_⟩) (by assumption) ?_
  rotate_left
  · (intro w hSw; (try dsimp only at hSw); subst hSw; go_simp; (try with_reducible rfl))
  (try simp only [uA, uB, uC, uD, uE, uF, uG, uH])
  refine wpAnyH_take (i := 3) (oi := _) (v := ?_) rfl (by kernel_rfl) (by kernel_rfl) (by kernel_rfl) (fun _ _ _ h => h) (Or.inl ⟨by rfl, ?_⟩) (by assumption) ?_
  rotate_left
  · (intro w hSw; (try dsimp only at hSw); subst hSw; go_simp; (try with_reducible rfl))
  (try simp only [uA, uB, uC, uD, uE, uF, uG, uH])
  refine wpAnyH_ready (rs := [4]) (by kernel_rfl) (by decide) (AllReadyH.cons rfl (fun K' hK => ?_) AllReadyH.nil)
  rw [if_pos (by rfl)]
  go_simp
  refine (CC.out).mono ?_
  rintro e w' ⟨rfl, rfl⟩
  (try dsimp only)
  refine hK.out _ _ (by rfl) (fun hHeld => ?_)
  clear hK
  (try simp only [uA, uB, uC, uD, uE, uF, uG, uH])
  refine wpAnyH_take (i := 5) (oi := _) (v := ?_) rfl (by kernel_rfl) (by kernel_rfl) (by kernel_rfl) (fun _ _ _ h => h) (Or.inl ⟨by rfl, ?_⟩) (by assumption) ?_
  rotate_left
  · (intro w hSw; (try dsimp only at hSw); subst hSw; go_simp; (try with_reducible rfl))
  (try simp only [uA, uB, uC, uD, uE, uF, uG, uH])
  refine wpAnyH_done (by kernel_rfl) ?_ _
  go_wp2_with fail
  go_ret
  exact ⟨rfl, b0.drew, 1, #[.cells x 89, .cells y 89], by
    simp only [Go.Sort.alloc_eq_grow, Go.Sort.grow_grow]
    rfl⟩
end Go.Proofs.YtadkeohohehmcaaGreatDoor.Top
end
section
/- Do two leaves have one path? -/
namespace Go.Proofs.YtadkeohohehmcaaGreatDoor.Top
open Go.RowKit Go.Proofs.YtadkeohohehmcaaGreatDoorW.PrintWords Go.Proofs.YtadkeohohehmcaaGreatDoorW.PrintLast Go.Proofs.YtadkeohohehmcaaGreatDoorW.PrintMore Go.Proofs.YtadkeohohehmcaaGreatDoor.PTop
open Go.Sort (SWO HoldsK flatK get_flatK size_flatK putRowK putRow)
set_option linter.unusedVariables false
set_option linter.unusedSimpArgs false
attribute [local go_sem] Oper.semAt_some

/-- A leaf. -/
structure Lf where
  p : List Int
  v : List Int
  ok : PathOk p
  len : v.length = 32
theorem z32o : PathOk (List.replicate 32 0) := ⟨rfl, fun x h => by rw [List.mem_replicate] at h; omega⟩
instance : Inhabited Lf := ⟨⟨List.replicate 32 0, List.replicate 32 0, z32o, rfl⟩⟩
def Lf.enc (x : Lf) : List Value := (x.p ++ x.v).map (Value.int .u8)
theorem Lf.enc_len (x : Lf) : x.enc.length = 64 := by unfold Lf.enc; rw [List.length_map, List.length_append, x.ok.len, x.len]
theorem Lf.enc_one (x : Lf) : ∀ u ∈ x.enc, u.oneCell' = true := fun u h => by
  unfold Lf.enc at h
  rw [List.mem_map] at h
  obtain ⟨a, _, rfl⟩ := h
  rfl
def lfC : List Lf → List Value
  | [] => []
  | x :: r => x.enc ++ lfC r
theorem lfC_len : ∀ l : List Lf, (lfC l).length = l.length * 64
  | [] => rfl
  | x :: r => by rw [lfC, List.length_append, lfC_len r, List.length_cons, x.enc_len]; omega
theorem lfC_one : ∀ l : List Lf, ∀ u ∈ lfC l, u.oneCell' = true
  | [], u, h => by cases h
  | x :: r, u, h => by
    rw [lfC, List.mem_append] at h
    rcases h with h | h
    · exact x.enc_one u h
    · exact lfC_one r u h
theorem lfC_at : ∀ (l : List Lf) (i : Nat) (x : Lf), l[i]? = some x → ∀ j u, x.enc[j]? = some u → (lfC l)[i * 64 + j]? = some u
  | [], i, x, h => by simp at h
  | y :: r, 0, x, h => fun j u hj => by
    obtain rfl : y = x := by simpa using h
    rw [lfC, Nat.zero_mul, Nat.zero_add, List.getElem?_append_left (List.getElem?_eq_some_iff.1 hj).1]
    exact hj
  | y :: r, i + 1, x, h => fun j u hj => by
    rw [lfC, show (i + 1) * 64 + j = y.enc.length + (i * 64 + j) by rw [y.enc_len]; omega, List.getElem?_append_right (by omega), Nat.add_sub_cancel_left]
    exact lfC_at r i x (by simpa using h) j u hj

theorem cmpI_lt (x y : Int) : cmpI x y = -1 ↔ x < y := by unfold cmpI; split; · simp [*]
                                                          · split <;> omega
theorem cmpI_gt (x y : Int) : cmpI x y = 1 ↔ y < x := by unfold cmpI; split; · constructor <;> omega
                                                         · split <;> omega
theorem cmpI_eq (x y : Int) : cmpI x y = 0 ↔ x = y := by unfold cmpI; split; · constructor <;> omega
                                                         · split <;> constructor <;> omega
theorem cmpI_cases (x y : Int) : (cmpI x y = -1 ∧ x < y) ∨ (cmpI x y = 1 ∧ y < x) ∨ (cmpI x y = 0 ∧ x = y) := by
  rcases Int.lt_trichotomy x y with h | h | h
  · exact Or.inl ⟨(cmpI_lt _ _).2 h, h⟩
  · exact Or.inr (Or.inr ⟨(cmpI_eq _ _).2 h, h⟩)
  · exact Or.inr (Or.inl ⟨(cmpI_gt _ _).2 h, h⟩)
theorem lex_irrefl : ∀ a : List Int, lexC a a = 0
  | [] => rfl
  | x :: a => by rw [lexC, (cmpI_eq x x).2 rfl]; simpa using lex_irrefl a
theorem lex_trans : ∀ a b c : List Int, lexC a b < 0 → lexC b c < 0 → lexC a c < 0
  | [], [], c, h, _ => by rw [lexC] at h; omega
  | [], _ :: _, [], _, h => by rw [lexC] at h; omega
  | [], _ :: _, _ :: _, _, _ => by rw [lexC]; omega
  | _ :: _, [], _, h, _ => by rw [lexC] at h; omega
  | _ :: _, _ :: _, [], _, h => by rw [lexC] at h; omega
  | x :: a, y :: b, z :: c, h1, h2 => by
    rw [lexC] at h1 h2 ⊢
    rcases cmpI_cases x y with ⟨e1, l1⟩ | ⟨e1, l1⟩ | ⟨e1, l1⟩ <;> rcases cmpI_cases y z with ⟨e2, l2⟩ | ⟨e2, l2⟩ | ⟨e2, l2⟩ <;> simp only [e1, e2] at h1 h2
    · rw [(cmpI_lt x z).2 (by omega), if_pos (by decide)]; decide
    · omega
    · rw [(cmpI_lt x z).2 (by omega), if_pos (by decide)]; decide
    · omega
    · omega
    · omega
    · rw [(cmpI_lt x z).2 (by omega), if_pos (by decide)]; decide
    · omega
    · rw [(cmpI_eq x z).2 (by omega)]
      exact lex_trans a b c (by simpa using h1) (by simpa using h2)
theorem lex_ntrans : ∀ a b c : List Int, ¬ lexC a b < 0 → ¬ lexC b c < 0 → ¬ lexC a c < 0
  | [], [], _, _, h => h
  | [], _ :: _, _, h, _ => by rw [lexC] at h; omega
  | _ :: _, [], [], _, _ => by rw [lexC]; omega
  | _ :: _, [], _ :: _, _, h => by rw [lexC] at h; omega
  | _ :: _, _ :: _, [], _, _ => by rw [lexC]; omega
  | x :: a, y :: b, z :: c, h1, h2 => by
    rw [lexC] at h1 h2 ⊢
    rcases cmpI_cases x y with ⟨e1, l1⟩ | ⟨e1, l1⟩ | ⟨e1, l1⟩ <;> rcases cmpI_cases y z with ⟨e2, l2⟩ | ⟨e2, l2⟩ | ⟨e2, l2⟩ <;> simp only [e1, e2] at h1 h2
    · omega
    · omega
    · omega
    · omega
    · rw [(cmpI_gt x z).2 (by omega), if_pos (by decide)]; decide
    · rw [(cmpI_gt x z).2 (by omega), if_pos (by decide)]; decide
    · omega
    · rw [(cmpI_gt x z).2 (by omega), if_pos (by decide)]; decide
    · rw [(cmpI_eq x z).2 (by omega)]
      have := lex_ntrans a b c (by simpa using h1) (by simpa using h2)
      simpa using this
def cfL (x y : Lf) : Int := lexC x.p y.p
theorem cfL_swo : SWO (ltOf cfL) where
  irrefl x := by unfold ltOf cfL; rw [lex_irrefl]; decide
  trans x y z h1 h2 := by
    unfold ltOf cfL at *
    rw [decide_eq_true_eq] at *
    exact lex_trans _ _ _ h1 h2
  ntrans x y z h1 h2 := by
    unfold ltOf cfL at *
    rw [decide_eq_false_iff_not] at *
    exact lex_ntrans _ _ _ h1 h2
/-- The leaves, sorted as slices.SortFunc does. -/
def sortL (l : List Lf) : Array Lf := Go.Sort.pdq (ltOf cfL) l.toArray 0 l.toArray.size (Lib.bitLen l.toArray.size) true true
def twF (d : Array Lf) : Bool := (List.range d.size).any fun j => decide (0 < j) && decide (d[j]!.p = d[j - 1]!.p)
def twiceF (l : List Lf) : Bool := twF (sortL l)
theorem sortL_size (l : List Lf) : (sortL l).size = l.length := by
  have h := Go.Sort.pdq_sorts (ltOf cfL) cfL_swo l.toArray 0 l.toArray.size (Lib.bitLen l.toArray.size) true true (Nat.zero_le _) (Nat.le_refl _) (Or.inl rfl)
  have := h.1.1
  unfold sortL
  simpa using this
theorem sortL_nil : sortL [] = #[] := Array.eq_empty_of_size_eq_zero (sortL_size [])
theorem cmpLays75 (blk off size : Nat) (w : World) : CmpLays Tryz.prog 75 #[] Lf.enc 64 cfL blk off size w := fun _ _ _ _ x y => by
  refine (cmpleaf_c x.p x.v y.p y.v x.ok.len x.len y.ok.len y.len _).mono ?_
  rintro e w' ⟨rfl, _, h⟩
  exact ⟨rfl, h⟩
theorem lfC_get (l : List Lf) (t : Nat) (h : t < l.length * 64) : (lfC l)[t]? = some (l.toArray[t / 64]!.enc[t % 64]!) := by
  have hi : t / 64 < l.length := by omega
  have hm : t % 64 < 64 := by omega
  have e : t = t / 64 * 64 + t % 64 := by omega
  have hx : l[t / 64]? = some l.toArray[t / 64]! := by
    rw [getElem!_pos l.toArray (t / 64) (by simpa using hi)]
    simp [hi]
  rw [e]
  have e1 : (t / 64 * 64 + t % 64) / 64 = t / 64 := by omega
  have e2 : (t / 64 * 64 + t % 64) % 64 = t % 64 := by omega
  rw [e1, e2]
  refine lfC_at l _ _ hx _ _ ?_
  rw [getElem!_pos (l.toArray[t / 64]!.enc) (t % 64) (by rw [Lf.enc_len]; exact hm)]
  exact List.getElem?_eq_getElem _
theorem holds_leaf (W : World) (g cap n0 : Nat) (l : List Lf) (h : W.ownsRow n0 89 64 (.slice (some ⟨g, 0, none⟩) l.length cap) l.length (lfC l)) : HoldsK Lf.enc 64 W g 0 l.toArray := fun j hj => by
  have hj' : j < l.length * 64 := by simpa using hj
  constructor
  · have := h.cells (g := g) rfl j _ (lfC_get l j hj')
    rw [Addr.add_lit] at this
    rw [this, get_flatK _ _ _ j (by simpa using hj')]
    rfl
  · have := h.frozenAt (0 + j)
    simpa using this
theorem sort_c (l : List Lf) (g cap n0 : Nat) (W : World) (h : W.ownsRow n0 89 64 (.slice (some ⟨g, 0, none⟩) l.length cap) l.length (lfC l)) (hm : l.length ≤ 1000000) :
    Calls Tryz.prog 74 #[.slice (some ⟨g, 0, none⟩) l.length cap, .func (.func 75) #[] #[]] W fun e w' => e = .returned (.tuple #[]) ∧ (∀ j, j < l.length → w'.rangeAt g (j * 64) (sortL l)[j]!.enc) ∧ (∀ k, k ≠ g → k < W.heap.size → w'.heap[k]? = W.heap[k]?) ∧ W.heap.size ≤ w'.heap.size ∧ w'.os = W.os ∧ w'.tape = W.tape ∧ w'.output = W.output := by
  have hg : g < W.heap.size := h.lt g rfl |>.2
  have eg : ∀ args w, (callFunc 75 args).run Tryz.prog w = .ok (.enter 75 args) w := enters_of Tryz.func75 (by kernel_rfl) rfl
  have hH := holds_leaf W g cap n0 l h
  have hcon := AnyQ.slices_SortFunc_eq Tryz.sortLeaf 64 Tryz.isAgg89 Tryz.sizeOf89 Lf.enc Lf.enc_len Lf.enc_one cfL cfL_swo 75 #[] g 0 cap l.toArray W eg (cmpLays75 g 0 _ W) hH hg (by simp; omega)
  refine (show Calls Tryz.prog 74 _ W _ from hcon).mono ?_
  rintro e w' ⟨rfl, n, os, rfl⟩
  have hs : (sortL l).size = l.toArray.size := by rw [sortL_size]; simp
  have hH2 := holdsK_sortWorldK Lf.enc 64 W g 0 n l.toArray (sortL l) os hg hH hs
  refine ⟨rfl, fun j hj i u hu => ?_, fun k hk hkl => ?_, ?_, rfl, rfl, rfl⟩
  · have hi : i < 64 := by have := (List.getElem?_eq_some_iff.1 hu).1; rwa [Lf.enc_len] at this
    have := (hH2 (j * 64 + i) (by rw [size_flatK, hs]; simp; omega)).1
    rw [get_flatK _ _ _ _ (by rw [hs]; simp; omega)] at this
    have e1 : (j * 64 + i) / 64 = j := by omega
    have e2 : (j * 64 + i) % 64 = i := by omega
    rw [e1, e2] at this
    rw [show j * 64 + i = 0 + (j * 64 + i) by omega]
    refine this.trans ?_
    congr 1
    rw [getElem!_pos _ _ (by rw [Lf.enc_len]; exact hi)]
    exact (List.getElem?_eq_some_iff.1 hu).2
  · unfold sortWorldK Go.Sort.grow putRowK putRow Go.Sort.mapBlock Go.Sort.ahead
    rw [Array.getElem?_append_left (by simpa using hkl), Array.getElem?_modify, if_neg (fun e => hk e.symm)]
  · unfold sortWorldK Go.Sort.grow putRowK putRow Go.Sort.mapBlock Go.Sort.ahead
    simp
theorem sort_none (cap : Nat) (W : World) : Calls Tryz.prog 74 #[.slice none 0 cap, .func (.func 75) #[] #[]] W fun e w' => e = .returned (.tuple #[]) ∧ w' = W := AnyF.slices_SortFunc_none Tryz.sortLeaf none cap _ W

/-- What twice's loop knows. -/
structure TwL (l : List Lf) (s10 : Value) (i : Nat) : Prop where
  ix : s10 = .int .i64 (i : Int)
  le : i ≤ l.length
  no : ∀ j, j < i → ¬ (0 < j ∧ (sortL l)[j]!.p = (sortL l)[j - 1]!.p)
theorem twF_true {d : Array Lf} {j : Nat} (hj : j < d.size) (h0 : 0 < j) (he : d[j]!.p = d[j - 1]!.p) : twF d = true := by
  unfold twF
  rw [List.any_eq_true]
  exact ⟨j, List.mem_range.2 hj, by rw [decide_eq_true h0, decide_eq_true he]; rfl⟩
theorem twF_false {d : Array Lf} (h : ∀ j, j < d.size → ¬ (0 < j ∧ d[j]!.p = d[j - 1]!.p)) : twF d = false := by
  unfold twF
  rw [List.any_eq_false]
  intro j hj
  rw [List.mem_range] at hj
  intro hc
  rw [Bool.and_eq_true, decide_eq_true_eq, decide_eq_true_eq] at hc
  exact h j hj hc
theorem enc_path {W : World} {g o : Nat} {x : Lf} (h : W.rangeAt g o x.enc) : W.rangeAt g o (x.p.map (Value.int .u8)) := fun i u hi => h i u (by
  unfold Lf.enc
  rw [List.map_append, List.getElem?_append_left (List.getElem?_eq_some_iff.1 hi).1]
  exact hi)
/-- What stands when the leaves are sorted. -/
structure SrtP (l : List Lf) (A : Option Addr) (n0 : Nat) (w W : World) : Prop where
  below : Below n0 w W
  row : 0 < l.length → ∃ g, A = some ⟨g, 0, none⟩ ∧ ∀ j, j < l.length → W.rangeAt g (j * 64) (sortL l)[j]!.enc
theorem srt_c (l : List Lf) (hm : l.length ≤ 1000000) (w : World) (e : Ending) (W1 : World) (h : CloneP 89 64 l.length (lfC l) w e W1) :
    ∃ A cap, e = .returned (.slice A l.length cap) ∧ Calls Tryz.prog 74 #[.slice A l.length cap, .func (.func 75) #[] #[]] W1 fun e w' => e = .returned (.tuple #[]) ∧ SrtP l A w.heap.size w w' := by
  obtain ⟨v', rfl, ho, hb⟩ := h
  by_cases h0 : l.length = 0
  · have : ∃ A cap, v' = .slice A l.length cap := by
      rcases ho.2 with ⟨rfl, _⟩ | ⟨g, cap, cur, rfl, _⟩
      · exact ⟨none, 0, by rw [h0]⟩
      · exact ⟨_, _, rfl⟩
    obtain ⟨A, cap, rfl⟩ := this
    refine ⟨A, cap, rfl, ?_⟩
    have := AnyF.slices_SortFunc_none Tryz.sortLeaf A cap (.func (.func 75) #[] #[]) W1
    rw [h0]
    refine (show Calls Tryz.prog 74 _ W1 _ from this).mono ?_
    rintro e w' ⟨rfl, rfl⟩
    exact ⟨rfl, hb, fun hp => absurd hp (by omega)⟩
  · rcases ho.2 with ⟨rfl, h1⟩ | ⟨g, cap, cur, rfl, hg, _⟩
    · exact absurd h1 h0
    · refine ⟨_, cap, rfl, (sort_c l g cap _ W1 ho hm).mono ?_⟩
      rintro e w' ⟨rfl, h1, h2, h3, h4, h5, h6⟩
      exact ⟨rfl, ⟨h4.trans hb.os, h5.trans hb.tape, h6.trans hb.output, Nat.le_trans hb.size h3, fun k hk => (h2 k (by omega) (by have := hb.size; omega)).trans (hb.block k hk)⟩, fun _ => ⟨g, rfl, h1⟩⟩
set_option maxHeartbeats 4000000 in
set_option maxRecDepth 100000 in
theorem twice_c (v : Value) (l : List Lf) (w : World) (hr : Reads w 64 v l.length (lfC l)) (hm : l.length ≤ 1000000) :
    Calls Tryz.prog 57 #[v] w fun e w' => e = .returned (.bool (twiceF l)) ∧ Below w.heap.size w w' := by
  have CC := Aside0.mk (clone_leaf v l.length (lfC l) w hr hm (lfC_one l))
  have SS := Aside0.mk (srt_c l hm w)
  have hss := sortL_size l
  have hw0 : ∀ i : Nat, i ≤ l.length → wrap64 ((i : Int) - 1) = (i : Int) - 1 := fun i hi => by unfold wrap64; omega
  have hw1 : ∀ i : Nat, i ≤ l.length → wrap64 ((i : Int) + 1) = (i : Int) + 1 := fun i hi => by unfold wrap64; omega
  have HW0 := Aside0.mk hw0
  have HW1 := Aside0.mk hw1
  clear hr hw0 hw1
  generalize hT : twiceF l = T
  have HT := Aside0.mk hT
  clear hT
  go_enter Tryz.func57, Tryz.ntmps57
  go_wp2_with (first | (go_at_call 73; refine CC.out.mono ?_; rintro e W1 h1; obtain ⟨A, cap, rfl, hs⟩ := SS.out e W1 h1; clear h1; have HS := Aside0.mk hs; clear hs) | (go_at_call 74; refine HS.out.mono ?_; rintro e W2 ⟨rfl, h2⟩))
  have H2 := Aside0.mk h2
  clear h2 HS SS CC
  go_loopg [10] l.length (fun gg s10 wr => ∃ i : Nat, l.length - i ≤ gg ∧ Aside (TwL l s10 i) ∧ Aside (Below W2.heap.size W2 wr))
  case atStart => exact ⟨0, by omega, ⟨rfl, Nat.zero_le _, fun j hj => absurd hj (Nat.not_lt_zero _)⟩, Below.refl _ _⟩
  case round =>
    obtain ⟨i, hgg, P, B⟩ := hrel
    have PP := Aside0.mk P.out
    have BB := Aside0.mk B.out
    obtain rfl := PP.out.ix
    have hle := PP.out.le
    clear P B
    by_cases hin : i < l.length
    · obtain ⟨g, rfl, hrow⟩ := H2.out.row (by omega)
      have RR : ∀ j, j < l.length → wr.rangeAt g (j * 64) ((sortL l)[j]!.p.map (Value.int .u8)) := fun j hj k u hu => by
        have h1 := enc_path (hrow j hj) k u hu
        have hgl : g < W2.heap.size := block_lt_of_cell h1
        exact (World.cell?_of_block (w := W2) (BB.out.block g hgl)).trans h1
      clear hrow
      have hi0 : (i : Int) < (l.length : Int) := by omega
      have hi1 : (0 : Int) ≤ (i : Int) := by omega
      by_cases hz : i = 0
      · subst hz
        clear PP RR HW0
        go_upto_region 6 with fail
        refine wp_region_held_drew (S := (fun W => W = wr.drew)) (by kernel_rfl) (by rfl) (fun hHeld => ?_)
        refine wpAnyH_take (i := 0) (oi := _) (v := ?_) rfl (by kernel_rfl) (by kernel_rfl) (by kernel_rfl) (fun _ _ _ h => h) (Or.inl ⟨by rfl, ?_⟩) (by assumption) ?_
        rotate_left
        · (intro w hSw; (try dsimp only at hSw); subst hSw; go_simp; (try with_reducible rfl))
        (try simp only [uA, uB, uC, uD, uE, uF, uG, uH])
        refine wpAnyH_take (i := 1) (oi := _) (v := .bool false) rfl (by kernel_rfl) (by kernel_rfl) (by kernel_rfl) (fun _ _ _ h => h) (Or.inl ⟨by rfl, ?_⟩) (by assumption) ?_
        rotate_left 0
        · (intro w hSw; (try dsimp only at hSw); subst hSw; go_simp; (try with_reducible rfl))
        (try simp only [uA, uB, uC, uD, uE, uF, uG, uH])
        refine wpAnyH_take (i := 2) (oi := _) (v := .bool false) rfl (by kernel_rfl) (by kernel_rfl) (by kernel_rfl) (fun _ _ _ h => h) (Or.inl ⟨by rfl, ?_⟩) (by assumption) ?_
        rotate_left 0
        · (intro w hSw; (try dsimp only at hSw); subst hSw; go_simp; (try with_reducible rfl))
        (try simp only [uA, uB, uC, uD, uE, uF, uG, uH])
        refine wpAnyH_take (i := 3) (oi := _) (v := undef) rfl (by kernel_rfl) (by kernel_rfl) (by kernel_rfl) (fun _ _ _ h => h) (Or.inr ⟨by rfl, rfl⟩) (by assumption) ?_
        (try simp only [uA, uB, uC, uD, uE, uF, uG, uH])
        refine wpAnyH_take (i := 4) (oi := _) (v := undef) rfl (by kernel_rfl) (by kernel_rfl) (by kernel_rfl) (fun _ _ _ h => h) (Or.inr ⟨by rfl, rfl⟩) (by assumption) ?_
        (try simp only [uA, uB, uC, uD, uE, uF, uG, uH])
        refine wpAnyH_take (i := 5) (oi := _) (v := undef) rfl (by kernel_rfl) (by kernel_rfl) (by kernel_rfl) (fun _ _ _ h => h) (Or.inr ⟨by rfl, rfl⟩) (by assumption) ?_
        (try simp only [uA, uB, uC, uD, uE, uF, uG, uH])
        refine wpAnyH_take (i := 6) (oi := _) (v := undef) rfl (by kernel_rfl) (by kernel_rfl) (by kernel_rfl) (fun _ _ _ h => h) (Or.inr ⟨by rfl, rfl⟩) (by assumption) ?_
        (try simp only [uA, uB, uC, uD, uE, uF, uG, uH])
        refine wpAnyH_take (i := 7) (oi := _) (v := undef) rfl (by kernel_rfl) (by kernel_rfl) (by kernel_rfl) (fun _ _ _ h => h) (Or.inr ⟨by rfl, rfl⟩) (by assumption) ?_
        (try simp only [uA, uB, uC, uD, uE, uF, uG, uH])
        refine wpAnyH_take (i := 8) (oi := _) (v := undef) rfl (by kernel_rfl) (by kernel_rfl) (by kernel_rfl) (fun _ _ _ h => h) (Or.inr ⟨by rfl, rfl⟩) (by assumption) ?_
        (try simp only [uA, uB, uC, uD, uE, uF, uG, uH])
        refine wpAnyH_take (i := 9) (oi := _) (v := undef) rfl (by kernel_rfl) (by kernel_rfl) (by kernel_rfl) (fun _ _ _ h => h) (Or.inr ⟨by rfl, rfl⟩) (by assumption) ?_
        (try simp only [uA, uB, uC, uD, uE, uF, uG, uH])
        refine wpAnyH_take (i := 10) (oi := _) (v := undef) rfl (by kernel_rfl) (by kernel_rfl) (by kernel_rfl) (fun _ _ _ h => h) (Or.inr ⟨by rfl, rfl⟩) (by assumption) ?_
        (try simp only [uA, uB, uC, uD, uE, uF, uG, uH])
        refine wpAnyH_take (i := 11) (oi := _) (v := undef) rfl (by kernel_rfl) (by kernel_rfl) (by kernel_rfl) (fun _ _ _ h => h) (Or.inr ⟨by rfl, rfl⟩) (by assumption) ?_
        (try simp only [uA, uB, uC, uD, uE, uF, uG, uH])
        refine wpAnyH_take (i := 12) (oi := _) (v := undef) rfl (by kernel_rfl) (by kernel_rfl) (by kernel_rfl) (fun _ _ _ h => h) (Or.inr ⟨by rfl, rfl⟩) (by assumption) ?_
        (try simp only [uA, uB, uC, uD, uE, uF, uG, uH])
        refine wpAnyH_take (i := 13) (oi := _) (v := undef) rfl (by kernel_rfl) (by kernel_rfl) (by kernel_rfl) (fun _ _ _ h => h) (Or.inr ⟨by rfl, rfl⟩) (by assumption) ?_
        (try simp only [uA, uB, uC, uD, uE, uF, uG, uH])
        refine wpAnyH_take (i := 14) (oi := _) (v := undef) rfl (by kernel_rfl) (by kernel_rfl) (by kernel_rfl) (fun _ _ _ h => h) (Or.inr ⟨by rfl, rfl⟩) (by assumption) ?_
        (try simp only [uA, uB, uC, uD, uE, uF, uG, uH])
        refine wpAnyH_take (i := 15) (oi := _) (v := .bool false) rfl (by kernel_rfl) (by kernel_rfl) (by kernel_rfl) (fun _ _ _ h => h) (Or.inl ⟨by rfl, ?_⟩) (by assumption) ?_
        rotate_left 0
        · (intro w hSw; (try dsimp only at hSw); subst hSw; go_simp; (try with_reducible rfl))
        (try simp only [uA, uB, uC, uD, uE, uF, uG, uH])
        refine wpAnyH_done (by kernel_rfl) ?_ _
        go_wp2_with fail
        go_roundg (l.length - 1)
        case measure => omega
        case rel => exact ⟨1, Nat.le_refl _, ⟨rfl, by omega, fun j hj h => by omega⟩, BB.out.drew⟩
      · have hgt : decide ((i : Int) > 0) = true := decide_eq_true (by omega)
        have w0 : IntKind.i64.wrap ((i : Int) - 1) = (i : Int) - 1 := by simp [IntKind.wrap, IntKind.bits, IntKind.signed]; omega
        have R1 := RR i hin
        have R2 := RR (i - 1) (by omega)
        have i1 : (i : Int) - 1 < (l.length : Int) := by omega
        have i2 : (0 : Int) ≤ (i : Int) - 1 := by omega
        have t1 : ((i : Int) - 1).toNat = i - 1 := by omega
        have k1 := (sortL l)[i]!.ok
        have k2 := (sortL l)[i - 1]!.ok
        have E1 := fun w' => run_eq_dv (sortL l)[i]!.p (sortL l)[i - 1]!.p k1 k2 w'
        have hi1' := info31l (sortL l)[i]!.p k1.len
        have hi2' := info31l (sortL l)[i - 1]!.p k2.len
        have EG := fun x y a b w => run_guard_dv .eql (Or.inl rfl) x y a b w
        clear RR HW0
        obtain ⟨p1, hq1⟩ : ∃ p1, p1 = (sortL l)[i]!.p := ⟨_, rfl⟩
        obtain ⟨p2, hq2⟩ : ∃ p2, p2 = (sortL l)[i - 1]!.p := ⟨_, rfl⟩
        rw [← hq1] at R1 E1 hi1'
        rw [← hq2] at R2 E1 hi2'
        have Q1 := Aside0.mk hq1
        have Q2 := Aside0.mk hq2
        clear k1 k2 hq1 hq2
        go_upto_region 6 with fail
        by_cases hpe : p1 = p2
        · rw [decide_eq_true hpe] at E1
          have hT : twiceF l = true := twF_true (by rw [hss]; exact hin) (by omega) (Q1.out.symm.trans (hpe.trans Q2.out))
          obtain rfl : T = true := HT.out.symm.trans hT
          have b9 := H2.out.below
          clear hpe hT Q1 Q2
          refine wp_region_held_drew (S := (fun W => W = wr.drew)) (by kernel_rfl) (by rfl) (fun hHeld => ?_)
          refine wpAnyH_take (i := 0) (oi := _) (v := ?_) rfl (by kernel_rfl) (by kernel_rfl) (by kernel_rfl) (fun _ _ _ h => h) (Or.inl ⟨by rfl, ?_⟩) (by assumption) ?_
          rotate_left
          · (intro w hSw; (try dsimp only at hSw); subst hSw; go_simp; (try with_reducible rfl))
          (try simp only [uA, uB, uC, uD, uE, uF, uG, uH])
          refine wpAnyH_take (i := 1) (oi := _) (v := .bool true) rfl (by kernel_rfl) (by kernel_rfl) (by kernel_rfl) (fun _ _ _ h => h) (Or.inl ⟨by rfl, ?_⟩) (by assumption) ?_
          rotate_left 0
          · (intro w hSw; (try dsimp only at hSw); subst hSw; go_simp; first | exact hgt | (simp only [hgt]) | omega)
          (try simp only [uA, uB, uC, uD, uE, uF, uG, uH])
          refine wpAnyH_take (i := 2) (oi := _) (v := .bool true) rfl (by kernel_rfl) (by kernel_rfl) (by kernel_rfl) (fun _ _ _ h => h) (Or.inl ⟨by rfl, ?_⟩) (by assumption) ?_
          rotate_left 0
          · (intro w hSw; (try dsimp only at hSw); subst hSw; go_simp; (try with_reducible rfl))
          (try simp only [uA, uB, uC, uD, uE, uF, uG, uH])
          refine wpAnyH_take (i := 3) (oi := _) (v := ?_) rfl (by kernel_rfl) (by kernel_rfl) (by kernel_rfl) (fun _ _ _ h => h) (Or.inl ⟨by rfl, ?_⟩) (by assumption) ?_
          rotate_left
          · (intro w hSw; (try dsimp only at hSw); subst hSw; go_simp; (try with_reducible rfl))
          (try simp only [uA, uB, uC, uD, uE, uF, uG, uH])
          refine wpAnyH_take (i := 4) (oi := _) (v := ?_) rfl (by kernel_rfl) (by kernel_rfl) (by kernel_rfl) (fun _ _ _ h => h) (Or.inl ⟨by rfl, ?_⟩) (by assumption) ?_
          rotate_left
          · (intro w hSw; (try dsimp only at hSw); subst hSw; go_simp; (try with_reducible rfl))
          (try simp only [uA, uB, uC, uD, uE, uF, uG, uH])
          refine wpAnyH_take (i := 5) (oi := _) (v := .pointer (some ⟨g, i * 64, none⟩)) rfl (by kernel_rfl) (by kernel_rfl) (by kernel_rfl) (fun _ _ _ h => h) (Or.inl ⟨by rfl, ?_⟩) (by assumption) ?_
          rotate_left 0
          · (intro w hSw; (try dsimp only at hSw); subst hSw; go_simp; (try with_reducible rfl))
          (try simp only [uA, uB, uC, uD, uE, uF, uG, uH])
          refine wpAnyH_take (i := 6) (oi := _) (v := .pointer (some ⟨g, i * 64, none⟩)) rfl (by kernel_rfl) (by kernel_rfl) (by kernel_rfl) (fun _ _ _ h => h) (Or.inl ⟨by rfl, ?_⟩) (by assumption) ?_
          rotate_left 0
          · (intro w hSw; (try dsimp only at hSw); subst hSw; go_simp; (try with_reducible rfl))
          (try simp only [uA, uB, uC, uD, uE, uF, uG, uH])
          refine wpAnyH_take (i := 7) (oi := _) (v := _) rfl (by kernel_rfl) (by kernel_rfl) (by kernel_rfl) (fun _ _ _ h => h) (yieldsIf_load_mid (by rfl) 31 (.tmp 19) rfl g (i * 64) rfl _ _ (fun W hW => by rw [hW]; exact R1) Tryz.underlying31 rfl hi1') (by assumption) ?_
          (try simp only [uA, uB, uC, uD, uE, uF, uG, uH])
          refine wpAnyH_take (i := 8) (oi := _) (v := ?_) rfl (by kernel_rfl) (by kernel_rfl) (by kernel_rfl) (fun _ _ _ h => h) (Or.inl ⟨by rfl, ?_⟩) (by assumption) ?_
          rotate_left
          · (intro w hSw; (try dsimp only at hSw); subst hSw; go_simp; (try with_reducible rfl))
          (try simp only [uA, uB, uC, uD, uE, uF, uG, uH])
          refine wpAnyH_take (i := 9) (oi := _) (v := ?_) rfl (by kernel_rfl) (by kernel_rfl) (by kernel_rfl) (fun _ _ _ h => h) (Or.inl ⟨by rfl, ?_⟩) (by assumption) ?_
          rotate_left
          · (intro w hSw; (try dsimp only at hSw); subst hSw; go_simp; (try with_reducible rfl))
          (try simp only [uA, uB, uC, uD, uE, uF, uG, uH])
          refine wpAnyH_take (i := 10) (oi := _) (v := .int .i64 ((i : Int) - 1)) rfl (by kernel_rfl) (by kernel_rfl) (by kernel_rfl) (fun _ _ _ h => h) (Or.inl ⟨by rfl, ?_⟩) (by assumption) ?_
          rotate_left 0
          · (intro w hSw; (try dsimp only at hSw); subst hSw; go_simp; (try exact w0))
          (try simp only [uA, uB, uC, uD, uE, uF, uG, uH])
          refine wpAnyH_take (i := 11) (oi := _) (v := .pointer (some ⟨g, (i - 1) * 64, none⟩)) rfl (by kernel_rfl) (by kernel_rfl) (by kernel_rfl) (fun _ _ _ h => h) (Or.inl ⟨by rfl, ?_⟩) (by assumption) ?_
          rotate_left 0
          · (intro w hSw; (try dsimp only at hSw); subst hSw; go_simp; (first | done | (intro hx; first | done | omega)))
          (try simp only [uA, uB, uC, uD, uE, uF, uG, uH])
          refine wpAnyH_take (i := 12) (oi := _) (v := .pointer (some ⟨g, (i - 1) * 64, none⟩)) rfl (by kernel_rfl) (by kernel_rfl) (by kernel_rfl) (fun _ _ _ h => h) (Or.inl ⟨by rfl, ?_⟩) (by assumption) ?_
          rotate_left 0
          · (intro w hSw; (try dsimp only at hSw); subst hSw; go_simp; (try with_reducible rfl))
          (try simp only [uA, uB, uC, uD, uE, uF, uG, uH])
          refine wpAnyH_take (i := 13) (oi := _) (v := _) rfl (by kernel_rfl) (by kernel_rfl) (by kernel_rfl) (fun _ _ _ h => h) (yieldsIf_load_mid (by rfl) 31 (.tmp 25) rfl g ((i - 1) * 64) rfl _ _ (fun W hW => by rw [hW]; exact R2) Tryz.underlying31 rfl hi2') (by assumption) ?_
          (try simp only [uA, uB, uC, uD, uE, uF, uG, uH])
          refine wpAnyH_take (i := 14) (oi := _) (v := .bool true) rfl (by kernel_rfl) (by kernel_rfl) (by kernel_rfl) (fun _ _ _ h => h) (Or.inl ⟨by rfl, ?_⟩) (by assumption) ?_
          rotate_left 0
          · (intro w hSw; (try dsimp only at hSw); subst hSw; go_simp; (try with_reducible rfl))
          (try simp only [uA, uB, uC, uD, uE, uF, uG, uH])
          refine wpAnyH_take (i := 15) (oi := _) (v := .bool true) rfl (by kernel_rfl) (by kernel_rfl) (by kernel_rfl) (fun _ _ _ h => h) (Or.inl ⟨by rfl, ?_⟩) (by assumption) ?_
          rotate_left 0
          · (intro w hSw; (try dsimp only at hSw); subst hSw; go_simp; (try with_reducible rfl))
          (try simp only [uA, uB, uC, uD, uE, uF, uG, uH])
          refine wpAnyH_done (by kernel_rfl) ?_ _
          go_wp2_with fail
          go_ret
          exact ⟨rfl, b9.trans (BB.out.drew.mono b9.size)⟩
        · rw [decide_eq_false hpe] at E1
          have hn : ∀ j, j < i + 1 → ¬ (0 < j ∧ (sortL l)[j]!.p = (sortL l)[j - 1]!.p) := fun j hj h => by
            by_cases e : j = i
            · subst e
              exact hpe (Q1.out.trans (h.2.trans Q2.out.symm))
            · exact PP.out.no j (by omega) h
          have w1 := HW1.out i hle
          clear hpe Q1 Q2 PP
          refine wp_region_held_drew (S := (fun W => W = wr.drew)) (by kernel_rfl) (by rfl) (fun hHeld => ?_)
          refine wpAnyH_take (i := 0) (oi := _) (v := ?_) rfl (by kernel_rfl) (by kernel_rfl) (by kernel_rfl) (fun _ _ _ h => h) (Or.inl ⟨by rfl, ?_⟩) (by assumption) ?_
          rotate_left
          · (intro w hSw; (try dsimp only at hSw); subst hSw; go_simp; (try with_reducible rfl))
          (try simp only [uA, uB, uC, uD, uE, uF, uG, uH])
          refine wpAnyH_take (i := 1) (oi := _) (v := .bool true) rfl (by kernel_rfl) (by kernel_rfl) (by kernel_rfl) (fun _ _ _ h => h) (Or.inl ⟨by rfl, ?_⟩) (by assumption) ?_
          rotate_left 0
          · (intro w hSw; (try dsimp only at hSw); subst hSw; go_simp; first | exact hgt | (simp only [hgt]) | omega)
          (try simp only [uA, uB, uC, uD, uE, uF, uG, uH])
          refine wpAnyH_take (i := 2) (oi := _) (v := .bool true) rfl (by kernel_rfl) (by kernel_rfl) (by kernel_rfl) (fun _ _ _ h => h) (Or.inl ⟨by rfl, ?_⟩) (by assumption) ?_
          rotate_left 0
          · (intro w hSw; (try dsimp only at hSw); subst hSw; go_simp; (try with_reducible rfl))
          (try simp only [uA, uB, uC, uD, uE, uF, uG, uH])
          refine wpAnyH_take (i := 3) (oi := _) (v := ?_) rfl (by kernel_rfl) (by kernel_rfl) (by kernel_rfl) (fun _ _ _ h => h) (Or.inl ⟨by rfl, ?_⟩) (by assumption) ?_
          rotate_left
          · (intro w hSw; (try dsimp only at hSw); subst hSw; go_simp; (try with_reducible rfl))
          (try simp only [uA, uB, uC, uD, uE, uF, uG, uH])
          refine wpAnyH_take (i := 4) (oi := _) (v := ?_) rfl (by kernel_rfl) (by kernel_rfl) (by kernel_rfl) (fun _ _ _ h => h) (Or.inl ⟨by rfl, ?_⟩) (by assumption) ?_
          rotate_left
          · (intro w hSw; (try dsimp only at hSw); subst hSw; go_simp; (try with_reducible rfl))
          (try simp only [uA, uB, uC, uD, uE, uF, uG, uH])
          refine wpAnyH_take (i := 5) (oi := _) (v := .pointer (some ⟨g, i * 64, none⟩)) rfl (by kernel_rfl) (by kernel_rfl) (by kernel_rfl) (fun _ _ _ h => h) (Or.inl ⟨by rfl, ?_⟩) (by assumption) ?_
          rotate_left 0
          · (intro w hSw; (try dsimp only at hSw); subst hSw; go_simp; (try with_reducible rfl))
          (try simp only [uA, uB, uC, uD, uE, uF, uG, uH])
          refine wpAnyH_take (i := 6) (oi := _) (v := .pointer (some ⟨g, i * 64, none⟩)) rfl (by kernel_rfl) (by kernel_rfl) (by kernel_rfl) (fun _ _ _ h => h) (Or.inl ⟨by rfl, ?_⟩) (by assumption) ?_
          rotate_left 0
          · (intro w hSw; (try dsimp only at hSw); subst hSw; go_simp; (try with_reducible rfl))
          (try simp only [uA, uB, uC, uD, uE, uF, uG, uH])
          refine wpAnyH_take (i := 7) (oi := _) (v := _) rfl (by kernel_rfl) (by kernel_rfl) (by kernel_rfl) (fun _ _ _ h => h) (yieldsIf_load_mid (by rfl) 31 (.tmp 19) rfl g (i * 64) rfl _ _ (fun W hW => by rw [hW]; exact R1) Tryz.underlying31 rfl hi1') (by assumption) ?_
          (try simp only [uA, uB, uC, uD, uE, uF, uG, uH])
          refine wpAnyH_take (i := 8) (oi := _) (v := ?_) rfl (by kernel_rfl) (by kernel_rfl) (by kernel_rfl) (fun _ _ _ h => h) (Or.inl ⟨by rfl, ?_⟩) (by assumption) ?_
          rotate_left
          · (intro w hSw; (try dsimp only at hSw); subst hSw; go_simp; (try with_reducible rfl))
          (try simp only [uA, uB, uC, uD, uE, uF, uG, uH])
          refine wpAnyH_take (i := 9) (oi := _) (v := ?_) rfl (by kernel_rfl) (by kernel_rfl) (by kernel_rfl) (fun _ _ _ h => h) (Or.inl ⟨by rfl, ?_⟩) (by assumption) ?_
          rotate_left
          · (intro w hSw; (try dsimp only at hSw); subst hSw; go_simp; (try with_reducible rfl))
          (try simp only [uA, uB, uC, uD, uE, uF, uG, uH])
          refine wpAnyH_take (i := 10) (oi := _) (v := .int .i64 ((i : Int) - 1)) rfl (by kernel_rfl) (by kernel_rfl) (by kernel_rfl) (fun _ _ _ h => h) (Or.inl ⟨by rfl, ?_⟩) (by assumption) ?_
          rotate_left 0
          · (intro w hSw; (try dsimp only at hSw); subst hSw; go_simp; (try exact w0))
          (try simp only [uA, uB, uC, uD, uE, uF, uG, uH])
          refine wpAnyH_take (i := 11) (oi := _) (v := .pointer (some ⟨g, (i - 1) * 64, none⟩)) rfl (by kernel_rfl) (by kernel_rfl) (by kernel_rfl) (fun _ _ _ h => h) (Or.inl ⟨by rfl, ?_⟩) (by assumption) ?_
          rotate_left 0
          · (intro w hSw; (try dsimp only at hSw); subst hSw; go_simp; (first | done | (intro hx; first | done | omega)))
          (try simp only [uA, uB, uC, uD, uE, uF, uG, uH])
          refine wpAnyH_take (i := 12) (oi := _) (v := .pointer (some ⟨g, (i - 1) * 64, none⟩)) rfl (by kernel_rfl) (by kernel_rfl) (by kernel_rfl) (fun _ _ _ h => h) (Or.inl ⟨by rfl, ?_⟩) (by assumption) ?_
          rotate_left 0
          · (intro w hSw; (try dsimp only at hSw); subst hSw; go_simp; (try with_reducible rfl))
          (try simp only [uA, uB, uC, uD, uE, uF, uG, uH])
          refine wpAnyH_take (i := 13) (oi := _) (v := _) rfl (by kernel_rfl) (by kernel_rfl) (by kernel_rfl) (fun _ _ _ h => h) (yieldsIf_load_mid (by rfl) 31 (.tmp 25) rfl g ((i - 1) * 64) rfl _ _ (fun W hW => by rw [hW]; exact R2) Tryz.underlying31 rfl hi2') (by assumption) ?_
          (try simp only [uA, uB, uC, uD, uE, uF, uG, uH])
          refine wpAnyH_take (i := 14) (oi := _) (v := .bool false) rfl (by kernel_rfl) (by kernel_rfl) (by kernel_rfl) (fun _ _ _ h => h) (Or.inl ⟨by rfl, ?_⟩) (by assumption) ?_
          rotate_left 0
          · (intro w hSw; (try dsimp only at hSw); subst hSw; go_simp; (try with_reducible rfl))
          (try simp only [uA, uB, uC, uD, uE, uF, uG, uH])
          refine wpAnyH_take (i := 15) (oi := _) (v := .bool false) rfl (by kernel_rfl) (by kernel_rfl) (by kernel_rfl) (fun _ _ _ h => h) (Or.inl ⟨by rfl, ?_⟩) (by assumption) ?_
          rotate_left 0
          · (intro w hSw; (try dsimp only at hSw); subst hSw; go_simp; (try with_reducible rfl))
          (try simp only [uA, uB, uC, uD, uE, uF, uG, uH])
          refine wpAnyH_done (by kernel_rfl) ?_ _
          go_wp2_with fail
          go_roundg (l.length - (i + 1))
          case measure => omega
          case rel => exact ⟨i + 1, Nat.le_refl _, ⟨by simp, by omega, hn⟩, BB.out.drew⟩
    · obtain rfl : i = l.length := by omega
      have hf : twiceF l = false := twF_false fun j hj => PP.out.no j (by rw [← hss]; exact hj)
      have b9 := H2.out.below
      obtain rfl : T = false := HT.out.symm.trans hf
      clear hf
      go_wp2
      go_ret
      exact ⟨rfl, b9.trans (BB.out.mono b9.size)⟩

end Go.Proofs.YtadkeohohehmcaaGreatDoor.Top
end
section
/- Leaves are set in a new tree. -/
namespace Go.Proofs.YtadkeohohehmcaaGreatDoor.Top
open Go.RowKit Go.Proofs.YtadkeohohehmcaaGreatDoorW.PrintWords Go.Proofs.YtadkeohohehmcaaGreatDoorW.PrintLast Go.Proofs.YtadkeohohehmcaaGreatDoorW.PrintMore Go.Proofs.YtadkeohohehmcaaGreatDoor.PTop
set_option linter.unusedVariables false
set_option linter.unusedSimpArgs false
attribute [local go_sem] Oper.semAt_some

def foldU (l : List Lf) : U := l.foldl (fun u x => U.with x.p x.v 256 u) .nil
theorem foldU_take (l : List Lf) (i : Nat) (h : i < l.length) : foldU (l.take (i + 1)) = U.with l[i].p l[i].v 256 (foldU (l.take i)) := by
  unfold foldU
  rw [List.take_add_one, List.getElem?_eq_getElem h, List.foldl_append]
  rfl
theorem good_nil (c : Nat → Bool) (i : Nat) : U.good c i .nil := by rw [U.good]; trivial
theorem foldU_good (l : List Lf) : ∀ c, U.good c 0 (foldU l) := by
  have : ∀ (l : List Lf) (u : U), (∀ c, U.good c 0 u) → ∀ c, U.good c 0 (l.foldl (fun u x => U.with x.p x.v 256 u) u) := by
    intro l
    induction l with
    | nil => exact fun u h c => h c
    | cons x r ih => exact fun u h => ih _ fun c => U.good_with x.p x.v x.ok x.len 256 u c 0 rfl (fun j hj => absurd hj (Nat.not_lt_zero _)) (h c)
  exact this l .nil fun c => good_nil c 0

set_option maxHeartbeats 4000000 in
set_option maxRecDepth 100000 in
theorem set_many (v : Value) (tb : Nat) (A : Option Addr) (n c : Nat) (w : World) (hn : 4096 < n) :
    Calls Tryz.prog 34 #[.pointer (some ⟨tb, 0, none⟩), .slice A n c] w fun e w' => e = .returned (.int .i64 2) ∧ Below w.heap.size w w' := by
  have hd : decide ((n : Int) > 4096) = true := decide_eq_true (by omega)
  have hgt : (n : Int) > 4096 := by omega
  go_enter Tryz.func34, Tryz.ntmps34
  go_wp2
  go_ret
  exact ⟨rfl, Below.refl _ _⟩
set_option maxHeartbeats 4000000 in
set_option maxRecDepth 100000 in
theorem set_twice (v : Value) (tb : Nat) (l : List Lf) (w : World) (hr : Reads w 64 v l.length (lfC l)) (hm : l.length ≤ 4096) (h2 : twiceF l = true) :
    Calls Tryz.prog 34 #[.pointer (some ⟨tb, 0, none⟩), v] w fun e w' => e = .returned (.int .i64 30) ∧ Below w.heap.size w w' := by
  obtain ⟨A, c, rfl⟩ : ∃ A c, v = .slice A l.length c := by
    rcases hr.2 with ⟨rfl, h0⟩ | ⟨b, off, c, rfl, _⟩
    · exact ⟨none, 0, by rw [h0]⟩
    · exact ⟨_, _, rfl⟩
  have TC := Aside0.mk (twice_c _ l w hr (by omega))
  rw [h2] at TC
  have hng : ¬ (l.length : Int) > 4096 := by omega
  clear hr h2
  go_enter Tryz.func34, Tryz.ntmps34
  go_wp2_with (go_at_call 57; refine TC.out.mono ?_; rintro e W1 ⟨rfl, hb⟩)
  go_ret
  exact ⟨rfl, hb⟩
/-- What Set's loop knows. -/
structure SetL (l : List Lf) (n0 : Nat) (w wr : World) (s5 s6 s31 : Value) (i : Nat) (t : AT) (m : Nat) : Prop where
  a : s5 = .pointer t.adr
  c : s6 = .int .i64 (m : Int)
  ix : s31 = .int .i64 (i : Int)
  le : i ≤ l.length
  mle : m ≤ i
  un : t.un = foldU (l.take i)
  rep : t.rep wr
  nd : t.blocks.Nodup
  new : ∀ b ∈ t.blocks, n0 ≤ b
  below : Below n0 w wr
def SetPost (l : List Lf) (tb : Nat) (w : World) (e : Ending) (w' : World) : Prop :=
  ∃ (m : Nat) (t : AT), e = .returned (.int .i64 0) ∧ w'.heap[tb]? = some (.cells (trC m t.adr) 110 (0, 0)) ∧ t.rep w' ∧ t.un = foldU l ∧ t.blocks.Nodup ∧ (∀ b ∈ t.blocks, w.heap.size ≤ b) ∧ Tou [tb] w w'
set_option maxHeartbeats 1600000 in
set_option maxRecDepth 100000 in
theorem set_ok (v : Value) (tb : Nat) (l : List Lf) (w : World) (htb : w.heap[tb]? = some (.cells (trC 0 none) 110 (0, 0))) (hr : Reads w 64 v l.length (lfC l)) (hm : l.length ≤ 4096) (h2 : twiceF l = false) :
    Calls Tryz.prog 34 #[.pointer (some ⟨tb, 0, none⟩), v] w fun e w' => SetPost l tb w e w' := by
  obtain ⟨A, c, rfl⟩ : ∃ A c, v = .slice A l.length c := by
    rcases hr.2 with ⟨rfl, h0⟩ | ⟨b, off, c, rfl, _⟩
    · exact ⟨none, 0, by rw [h0]⟩
    · exact ⟨_, _, rfl⟩
  have TC := Aside0.mk (twice_c _ l w hr (by omega))
  rw [h2] at TC
  have hng : ¬ (l.length : Int) > 4096 := by omega
  have htl : tb < w.heap.size := (Array.getElem?_eq_some_iff.1 htb).1
  have HR := Aside0.mk hr
  have TB := Aside0.mk htb
  have RB : ∀ W, Below w.heap.size w W → W.cell? ⟨tb, 1, none⟩ = some (.int .i64 0) ∧ W.cell? ⟨tb, 2, none⟩ = some (.pointer none) := fun W hW =>
    ⟨cell_in (l := [.int .i64 32, .int .i64 0, .pointer none]) ((hW.block tb htl).trans htb) rfl, cell_in (l := [.int .i64 32, .int .i64 0, .pointer none]) ((hW.block tb htl).trans htb) rfl⟩
  have RBB := Aside0.mk RB
  clear hr h2 htb RB
  go_enter Tryz.func34, Tryz.ntmps34
  go_upto_region 7 with (go_at_call 57; refine TC.out.mono ?_; rintro e W1 ⟨rfl, hb⟩)
  have HB := Aside0.mk hb
  obtain ⟨c1, c2⟩ := RBB.out W1 hb
  clear hb TC
  go_region
  go_wp2_with fail
  go_loopg [5, 6, 31] l.length (fun gg s5 s6 s31 wr => ∃ (i : Nat) (t : AT) (m : Nat), l.length - i ≤ gg ∧ Aside (SetL l w.heap.size w wr s5 s6 s31 i t m))
  case atStart => exact ⟨0, .nil, 0, by omega, ⟨rfl, rfl, rfl, Nat.zero_le _, Nat.le_refl _, rfl, by rw [AT.rep]; trivial, by rw [AT.blocks]; exact List.nodup_nil, (fun b hb => by rw [AT.blocks] at hb; cases hb), HB.out.drew⟩⟩
  case round =>
    obtain ⟨i, t, m, hgg, P⟩ := hrel
    have PP := Aside0.mk P.out
    obtain rfl := PP.out.a
    obtain rfl := PP.out.c
    obtain rfl := PP.out.ix
    have hle := PP.out.le
    have hml := PP.out.mle
    clear P c1 c2
    by_cases hin : i < l.length
    · have hi0 : (i : Int) < (l.length : Int) := by omega
      obtain ⟨hl64, ⟨h1, h1n⟩ | ⟨b, off, c', h1, hnc, hcs⟩⟩ := HR.out
      · exact absurd h1n (by omega)
      obtain ⟨rfl, _, rfl⟩ : A = some ⟨b, off, none⟩ ∧ True ∧ c = c' := by
        injection h1 with h1 h2 h3
        exact ⟨h1, trivial, h3⟩
      have hx : l[i]? = some l[i] := List.getElem?_eq_getElem hin
      have qr : Below w.heap.size w wr := PP.out.below
      have RL : wr.rangeAt b (off + i * 64) l[i].enc := fun j u hj => by
        have h5 := hcs _ _ (lfC_at l i _ hx j u hj)
        have hbl : b < w.heap.size := block_lt_of_cell h5
        rw [show off + i * 64 + j = off + (i * 64 + j) by omega]
        exact (World.cell?_of_block (w := w) (qr.block b hbl)).trans h5
      replace RL : wr.rangeAt b (off + i * 64) ((l[i].p ++ l[i].v).map (Value.int .u8)) := RL
      have hpl := l[i].ok
      have hvl := l[i].len
      have FT := Aside0.mk (foldU_take l i hin)
      have GD := foldU_good (l.take i) (fun _ => false)
      rw [← PP.out.un] at GD
      have TS := Aside0.mk (fun W hrep hnd => with_c l[i].p l[i].v hpl hvl 256 t (fun _ => false) 0 W rfl (fun j hj => absurd hj (Nat.not_lt_zero _)) GD hrep hnd)
      have TG := Aside0.mk (fun W htb' => get_c l[i].p hpl tb 0 .nil W htb' (by rw [AT.rep]; trivial) ⟨fun _ => false, good_nil _ _⟩)
      generalize l[i].p = p at *
      generalize l[i].v = u at *
      clear hx hcs hl64 HR h1 GD
      have hw1 := qr.size
      have hpu : (p ++ u).length = 64 := by rw [List.length_append, hpl.len, hvl]
      have hi89q : (Tryz.prog.info? 89).map (·.size) = some ((p ++ u).map (Value.int .u8)).length := by rw [List.length_map, hpu]; kernel_rfl
      have hi89 := info89 (p ++ u) hpu
      have hz89 : z89.toArray.size = ((p ++ u).map (Value.int .u8)).toArray.size := by rw [List.size_toArray, List.size_toArray, List.length_map, hpu]; rfl
      have h1q := dig_one (p ++ u)
      go_upto_region 11 with (first | (refine wpList_load_mid rfl 89 (.tmp 33) rfl b (off + i * 64) rfl _ _ RL Tryz.underlying89 rfl hi89q ?_) | (refine wpList_allocW rfl 89 rfl z89.toArray zero89 ?_; intro W3 b3 s3 k3) | (refine wpList_store_row rfl 89 (.tmp 8) (.tmp 34) rfl wr.heap.size _ rfl rfl 89 _ k3 hi89 hz89 h1q ?_))
      have k4 := setRow_heap W3 wr.heap.size _ ((p ++ u).map (Value.int .u8)).toArray 89 (0, 0) k3
      have b4 : Below wr.heap.size wr (W3.setRow wr.heap.size ((p ++ u).map (Value.int .u8)).toArray) := below_setRow b3 _ (Nat.le_refl _) _
      have s4 : (W3.setRow wr.heap.size ((p ++ u).map (Value.int .u8)).toArray).heap.size = wr.heap.size + 1 := by rw [size_setRow]; omega
      generalize W3.setRow wr.heap.size ((p ++ u).map (Value.int .u8)).toArray = W4 at k4 b4 s4 ⊢
      clear k3 b3 s3 RL hi89q hz89 h1q
      have q4 : Below w.heap.size w W4 := qr.trans (b4.mono hw1)
      have T4 : W4.heap[tb]? = some (.cells (trC 0 none) 110 (0, 0)) := (q4.block tb htl).trans TB.out
      have G4 := Aside0.mk (TG.out W4 T4)
      have R4 := Aside0.mk (AT.rep_below PP.out.rep b4)
      have RP : W4.rangeAt wr.heap.size 0 (p.map (Value.int .u8)) := pair_cells k4 0 p fun i u hi => by rw [Nat.zero_add, List.getElem?_append_left (List.getElem?_eq_some_iff.1 hi).1]; exact hi
      have hip := info31l p hpl.len
      clear TG T4
      go_upto_region 12 with (first | (refine wpList_load_mid rfl 31 (.tmp 37) rfl wr.heap.size 0 rfl _ _ RP Tryz.underlying31 rfl hip ?_) | (go_at_call 58; refine G4.out.mono ?_; rintro e W5 ⟨⟨d, ok, rfl, hd⟩, b5⟩) | (refine wpList_allocW rfl 31 rfl zD zero31 ?_; intro W6 b6 s6 k6) | (refine wpList_store_row rfl 31 (.tmp 9) (.tmp 40) rfl W5.heap.size _ rfl rfl 31 _ k6 (info31 d hd) (zD_size d hd) (dig_one d) ?_))
      have b7 : Below W5.heap.size W5 (W6.setRow W5.heap.size (d.map (Value.int .u8)).toArray) := below_setRow b6 _ (Nat.le_refl _) _
      generalize W6.setRow W5.heap.size (d.map (Value.int .u8)).toArray = W7 at b7 ⊢
      clear k6 b6 s6
      have hs5 := b5.size
      have q7 : Below W4.heap.size W4 W7 := b5.trans (b7.mono hs5)
      have k7 : W7.heap[wr.heap.size]? = some (.cells ((p ++ u).map (Value.int .u8)).toArray 89 (0, 0)) := (q7.block _ (by omega)).trans k4
      have RT := AT.rep_below R4.out q7
      have C7 : Aside0 (Calls Tryz.prog 59 #[.pointer t.adr, dv (p ++ u), .int .i64 0] W7 fun e w' => WithPost p u 256 t W7 e w') := ⟨TS.out W7 RT PP.out.nd⟩
      have Q7 : Below w.heap.size w W7 := q4.trans (q7.mono (by omega))
      have hwi : IntKind.i64.wrap ((i : Int) + 1) = (i : Int) + 1 := by simp [IntKind.wrap, IntKind.bits, IntKind.signed]; omega
      have hwm : IntKind.i64.wrap ((m : Int) + 1) = (m : Int) + 1 := by simp [IntKind.wrap, IntKind.bits, IntKind.signed]; omega
      have HWI := Aside0.mk hwi
      have HWM := Aside0.mk hwm
      have hs7 := Q7.size
      have FIN : Aside0 (∀ (m' : Nat) (W8 : World) (t' : AT), m' ≤ i + 1 → t'.rep W8 → t'.un = U.with p u 256 t.un → Below W7.heap.size W7 W8 → t'.blocks.Nodup → (∀ b ∈ t'.blocks, b ∈ t.blocks ∨ W7.heap.size ≤ b) → SetL l w.heap.size w W8 (.pointer t'.adr) (.int .i64 (m' : Int)) (.int .i64 ((i + 1 : Nat) : Int)) (i + 1) t' m') := ⟨fun m' W8 t' hm' r1 r2 r3 r4 r5 =>
        ⟨rfl, rfl, rfl, hin, hm', by rw [r2, PP.out.un, FT.out], r1, r4, fun b hb => by
          rcases r5 b hb with h | h
          · exact PP.out.new b h
          · omega, Q7.trans (r3.mono hs7)⟩⟩
      clear TS R4 G4 RP hip PP FT b5 b7 q7 k4 RT Q7 hwi hwm b4 q4 qr
      unfold dv at C7
      simp only [List.map_append] at C7 k7 hi89
      cases ok
      · have hwi := HWI.out
        have hwm := HWM.out
        go_wp2_with (first | (refine wpList_load_row rfl 89 (.tmp 8) rfl wr.heap.size rfl 89 _ (0, 0) _ k7 Tryz.underlying89 rfl hi89 ?_) | (go_at_call 59; refine C7.out.mono ?_; rintro e W8 ⟨t', rfl, r1, r2, r3, r4, r5⟩))
        go_roundg (l.length - (i + 1))
        case measure => omega
        case rel => exact ⟨i + 1, t', m + 1, Nat.le_refl _, FIN.out (m + 1) W8 t' (by omega) r1 r2 r3 r4 r5⟩
      · have hwi := HWI.out
        have hwm := HWM.out
        go_wp2_with (first | (refine wpList_load_row rfl 89 (.tmp 8) rfl wr.heap.size rfl 89 _ (0, 0) _ k7 Tryz.underlying89 rfl hi89 ?_) | (go_at_call 59; refine C7.out.mono ?_; rintro e W8 ⟨t', rfl, r1, r2, r3, r4, r5⟩))
        go_roundg (l.length - (i + 1))
        case measure => omega
        case rel => exact ⟨i + 1, t', m, Nat.le_refl _, FIN.out (m) W8 t' (by omega) r1 r2 r3 r4 r5⟩
    · obtain rfl : i = l.length := by omega
      have hnl : ¬ (l.length : Int) < (l.length : Int) := by omega
      have hmg : ¬ (m : Int) > 4096 := by omega
      have kt := (PP.out.below.block tb htl).trans TB.out
      have hb := PP.out.below
      clear RBB
      have ht0 : t.rep wr := PP.out.rep
      have hun : t.un = foldU l := by rw [PP.out.un, List.take_length]
      have hnd := PP.out.nd
      have hnew := PP.out.new
      have hnb : tb ∉ t.blocks := fun hm => by have := hnew tb hm; omega
      have FIN : Aside0 (∀ W : World, W.heap[tb]? = some (.cells (trC m t.adr) 110 (0, 0)) → Tou [tb] wr W → SetPost l tb w (.returned (.int .i64 0)) W) := ⟨fun W h1 h2 =>
        ⟨m, t, rfl, h1, AT.rep_frame ht0 (fun k hk => h2.block k (fun e => hnb (by rw [List.mem_singleton] at e; rw [← e]; exact hk)) (AT.rep_lt ht0 k hk)), hun, hnd, hnew, (Tou.of_below _ hb).trans h2⟩⟩
      have c1 : wr.cell? ⟨tb, 1, none⟩ = some (.int .i64 0) := cell_in (l := [.int .i64 32, .int .i64 0, .pointer none]) kt rfl
      have c2 : wr.cell? ⟨tb, 2, none⟩ = some (.pointer none) := cell_in (l := [.int .i64 32, .int .i64 0, .pointer none]) kt rfl
      have f1 : ∀ j, wr.frozen? ⟨tb, j, none⟩ = false := fun j => by simp [World.frozen?, kt]
      have T0 : Tou [tb] wr ((wr.setCell ⟨tb, 2, none⟩ (.pointer t.adr)).setCell ⟨tb, 1, none⟩ (.int .i64 (m : Int))) := ((Tou.of_below (w := wr) (w' := wr) [tb] (Below.refl _ _)).setCell (List.mem_singleton.2 rfl) _).setCell (List.mem_singleton.2 rfl) _
      clear ht0 hun hnd hnew hnb PP TB HR HB hb
      go_upto_region 18 with fail
      go_wp2_with fail
      go_ret
      exact FIN.out _ (blk_put (blk_put kt 2 (.pointer t.adr) rfl) 1 (.int .i64 (m : Int)) rfl) T0
end Go.Proofs.YtadkeohohehmcaaGreatDoor.Top
end
section
/- The root of leaves. -/
namespace Go.Proofs.YtadkeohohehmcaaGreatDoor.Top
open Go.RowKit Go.Proofs.YtadkeohohehmcaaGreatDoorW.PrintWords Go.Proofs.YtadkeohohehmcaaGreatDoorW.PrintLast Go.Proofs.YtadkeohohehmcaaGreatDoorW.PrintMore Go.Proofs.YtadkeohohehmcaaGreatDoor.PTop
set_option linter.unusedVariables false
set_option linter.unusedSimpArgs false
attribute [local go_sem] Oper.semAt_some

/-- The root of leaves: what smt.Root's digest is. -/
def rootF (KS : List Int) (l : List Lf) : List Int := if 4096 < l.length then List.replicate 32 0 else if twiceF l then List.replicate 32 0 else (foldU l).dig KS
theorem rootF_len (KS : List Int) (l : List Lf) : (rootF KS l).length = 32 := by
  unfold rootF
  split
  · rfl
  · split
    · rfl
    · exact U.dig_len KS _
theorem Reads.below {w w' : World} {k n : Nat} {v : Value} {xs : List Value} (h : Reads w k v n xs) (hb : Below w.heap.size w w') : Reads w' k v n xs := by
  rcases h with ⟨hl, h2 | ⟨b, off, c, rfl, hc, hx⟩⟩
  · exact ⟨hl, Or.inl h2⟩
  · exact ⟨hl, Or.inr ⟨b, off, c, rfl, hc, fun j u hj => (World.cell?_of_block (w := w) (hb.block b (block_lt_of_cell (hx j u hj)))).trans (hx j u hj)⟩⟩
def RootPost (d : List Int) (w : World) (e : Ending) (w' : World) : Prop := (∃ er : Int, e = .returned (.tuple #[dv d, .int .i64 er])) ∧ Below w.heap.size w w'
set_option maxHeartbeats 4000000 in
set_option maxRecDepth 100000 in
theorem smtroot_err (KS : List Int) (v : Value) (er : Int) (h0 : er ≠ 0) (w : World) (hs : ∀ tb (W : World), Below w.heap.size w W → w.heap.size ≤ tb → W.heap[tb]? = some (.cells (trC 0 none) 110 (0, 0)) → Calls Tryz.prog 34 #[.pointer (some ⟨tb, 0, none⟩), v] W fun e w' => e = .returned (.int .i64 er) ∧ Below W.heap.size W w') :
    Calls Tryz.prog 19 #[.int .i64 32, v] w fun e w' => RootPost (List.replicate 32 0) w e w' := by
  have HS := Aside0.mk hs
  have NT := Aside0.mk newt_c
  clear hs
  have hi31 := info31 (List.replicate 32 0) rfl
  have hz := zD_size (List.replicate 32 0) rfl
  have h1c := dig_one (List.replicate 32 0)
  go_enter Tryz.func19, Tryz.ntmps19
  go_upto_region 1 with (refine wpList_allocW rfl 31 rfl zD zero31 ?_; intro W1 b1 s1 k1)
  have N1 := Aside0.mk (NT.out W1)
  clear NT
  go_upto_region 4 with (go_at_call 33; refine N1.out.mono ?_; rintro e W2 ⟨tb, rfl, ht, hn, b2⟩)
  have hs1 := b1.size
  have q2 : Below w.heap.size w W2 := b1.trans (b2.mono hs1)
  have S2 := Aside0.mk (HS.out tb W2 q2 (by omega) ht)
  have k2 := (b2.block w.heap.size (by omega)).trans k1
  clear HS ht N1
  go_upto_region 6 with (go_at_call 34; refine S2.out.mono ?_; rintro e W3 ⟨rfl, b3⟩)
  have hs2 := q2.size
  have k3 := (b3.block w.heap.size (by have := (Array.getElem?_eq_some_iff.1 k2).1; omega)).trans k2
  have q3 : Below w.heap.size w W3 := q2.trans (b3.mono hs2)
  clear S2 k1 k2
  have he : (er == 0) = false := beq_eq_false_iff_ne.2 h0
  go_wp2_with (refine wpList_store_row rfl 31 (.tmp 4) (.tmp 23) rfl w.heap.size zD rfl rfl 31 _ k3 hi31 hz h1c ?_)
  have hgf := setRow_heap W3 w.heap.size _ zD 31 (0, 0) k3
  refine bodyPost_ret (results_ct rfl _ _ w.heap.size 31 _ (0, 0) _ rfl hgf Tryz.underlying31 rfl hi31) rfl ?_
  exact ⟨⟨er, rfl⟩, below_setRow q3 _ (Nat.le_refl _) _⟩
set_option maxHeartbeats 4000000 in
set_option maxRecDepth 100000 in
theorem smtroot_ok (KS : List Int) (v : Value) (l : List Lf) (w : World) (hk : HKey KS w) (hr : Reads w 64 v l.length (lfC l)) (hm : l.length ≤ 4096) (h2 : twiceF l = false) :
    Calls Tryz.prog 19 #[.int .i64 32, v] w fun e w' => RootPost ((foldU l).dig KS) w e w' := by
  have hd : ((foldU l).dig KS).length = 32 := U.dig_len KS _
  have hw0 := hk.pos
  have HK := Aside0.mk hk
  have HR := Aside0.mk hr
  have NT := Aside0.mk newt_c
  clear hk hr
  have SO := Aside0.mk (fun tb W hb hrr => set_ok v tb l W hb hrr hm h2)
  have RT := Aside0.mk (fun tb n t W a b c d e f => roott_c KS tb n t W a b c d e f)
  have UD : Aside0 (∀ t : AT, t.un = foldU l → t.un.dig KS = (foldU l).dig KS) := ⟨fun t h => by rw [h]⟩
  clear h2
  generalize (foldU l).dig KS = d at *
  go_enter Tryz.func19, Tryz.ntmps19
  go_upto_region 1 with (refine wpList_allocW rfl 31 rfl zD zero31 ?_; intro W1 b1 s1 k1)
  have N1 := Aside0.mk (NT.out W1)
  clear NT
  go_upto_region 4 with (go_at_call 33; refine N1.out.mono ?_; rintro e W2 ⟨tb, rfl, ht, hn, b2⟩)
  have hs1 := b1.size
  have q2 : Below w.heap.size w W2 := b1.trans (b2.mono hs1)
  have S2 := Aside0.mk (SO.out tb W2 ht (HR.out.below q2))
  have k2 := (b2.block w.heap.size (by omega)).trans k1
  have htl := (Array.getElem?_eq_some_iff.1 ht).1
  clear SO HR ht N1
  go_upto_region 7 with (go_at_call 34; refine S2.out.mono ?_; rintro e W3 ⟨m, t, rfl, r1, r2, r3, r4, r5, r6⟩)
  have hs2 := q2.size
  have hs3 := r6.size
  have ntw : w.heap.size ∉ [tb] := fun h => by rw [List.mem_singleton] at h; omega
  have k3 := (r6.block w.heap.size ntw (by omega)).trans k2
  have q3 : Below w.heap.size w W3 := ⟨r6.os.trans q2.os, r6.tape.trans q2.tape, r6.output.trans q2.output, by omega, fun k hk => (r6.block k (fun h => by rw [List.mem_singleton] at h; omega) (by omega)).trans (q2.block k hk)⟩
  have R3 := Aside0.mk (RT.out tb m t W3 (HK.out.below q3 hw0) r1 r2 r4 (fun h => by have := r5 0 h; omega) (fun h => by have := r5 tb h; omega))
  rw [UD.out t r3] at R3
  have nb : w.heap.size ∉ t.blocks := fun h => by have := r5 _ h; omega
  have nl : ∀ k ∈ t.blocks, w.heap.size ≤ k := fun k hk => by have := r5 k hk; omega
  clear S2 k1 k2 r1 r2 r3 r4 r5 r6 UD RT
  have hi31 := info31 d hd
  have hz := zD_size d hd
  have h1c := dig_one d
  go_wp2_with (first | (go_at_call 35; refine R3.out.mono ?_; rintro e W4 ⟨rfl, r4⟩; have k4 : W4.heap[w.heap.size]? = some (.cells zD 31 (0, 0)) := (r4.block w.heap.size nb (by omega)).trans k3) | (refine wpList_store_row rfl 31 (.tmp 4) (.tmp 26) rfl w.heap.size _ rfl rfl 31 _ k4 hi31 hz h1c ?_))
  have hgf := setRow_heap W4 w.heap.size _ (d.map (Value.int .u8)).toArray 31 (0, 0) k4
  have b4 : Below w.heap.size w W4 := ⟨r4.os.trans q3.os, r4.tape.trans q3.tape, r4.output.trans q3.output, Nat.le_trans q3.size r4.size, fun k hk => (r4.block k (fun h => by have := nl k h; omega) (by omega)).trans (q3.block k hk)⟩
  refine bodyPost_ret (results_ct rfl _ _ w.heap.size 31 _ (0, 0) _ rfl hgf Tryz.underlying31 rfl hi31) rfl ?_
  exact ⟨⟨0, rfl⟩, below_setRow b4 _ (Nat.le_refl _) _⟩
theorem smtroot_c (KS : List Int) (v : Value) (l : List Lf) (w : World) (hk : HKey KS w) (hr : Reads w 64 v l.length (lfC l)) (hm : l.length ≤ 1000000) :
    Calls Tryz.prog 19 #[.int .i64 32, v] w fun e w' => RootPost (rootF KS l) w e w' := by
  unfold rootF
  by_cases h1 : 4096 < l.length
  · rw [if_pos h1]
    refine smtroot_err KS v 2 (by decide) w fun tb W hb hn ht => ?_
    obtain ⟨A, c, rfl⟩ : ∃ A c, v = .slice A l.length c := by
      rcases hr.2 with ⟨rfl, h0⟩ | ⟨b, off, c, rfl, _⟩
      · exact ⟨none, 0, by rw [h0]⟩
      · exact ⟨_, _, rfl⟩
    exact set_many (.bool true) tb A l.length c W h1
  · rw [if_neg h1]
    cases h2 : twiceF l with
    | true =>
      rw [if_pos rfl]
      exact smtroot_err KS v 30 (by decide) w fun tb W hb hn ht => set_twice v tb l W (hr.below hb) (by omega) h2
    | false => exact smtroot_ok KS v l w hk hr (by omega) h2
end Go.Proofs.YtadkeohohehmcaaGreatDoor.Top
end
