/- Several texts in one. -/
import Derived.Test.YtadkeohohehmcaaGreatDoorBeA
import Derived.Laws.IdiomCopy
import Derived.Lib.Overlaps
import Derived.Lib.AppendZerosOnto
import Derived.Shelf.Spec.SlicesInsert
import Derived.Maps.AppendAt
section
/- A row takes an element in: slices.Insert. -/
namespace Go.Proofs.YtadkeohohehmcaaGreatDoor.Top
open Go.RowKit Go.Proofs.YtadkeohohehmcaaGreatDoorW.PrintWords Go.Proofs.YtadkeohohehmcaaGreatDoorW.PrintLast Go.Proofs.YtadkeohohehmcaaGreatDoorW.PrintMore Go.Proofs.YtadkeohohehmcaaGreatDoor.PTop
set_option linter.unusedVariables false
set_option linter.unusedSimpArgs false
attribute [local go_sem] Oper.semAt_some
theorem run_copyK (w : World) (t ty elem : TypeId) (size : Nat) (b o dLen dCap : Nat) (a : Addr) (sLen sCap n : Nat) (cs : List Value)
    (hu : Tryz.prog.underlying t = some (.slice elem)) (hs : (Tryz.prog.info? elem).map (·.size) = some size) (hn : n = Nat.min sLen dLen) (hl : cs.length = n * size)
    (hsrc : ∀ j v, cs[j]? = some v → w.cell? (a.add j) = some v) (hc : ∀ j, j < cs.length → (w.cell? ⟨b, o + j, none⟩).isSome = true) (hf : ∀ j, j < cs.length → w.frozen? ⟨b, o + j, none⟩ = false) (h1 : ∀ v ∈ cs, v.oneCell' = true) :
    (Builtin.copy_ #[t, t] ty #[.slice (some ⟨b, o, none⟩) dLen dCap, .slice (some a) sLen sCap]).run Tryz.prog w = .ok (goInt n) (w.setCells b o cs) := by
  have hst := run_storeCells_cells (P := Tryz.prog) b o cs 0 w (by simpa using hc) (by simpa using hf) h1
  have hfc := run_firstCells_some (P := Tryz.prog) w size n a sLen sCap cs hl hsrc
  cases hq : Tryz.prog.info? elem with
  | none => simp [hq] at hs
  | some i =>
    have hi : i.size = size := by simpa [hq] using hs
    simp only [Nat.add_zero] at hst
    simp [Builtin.copy_, run_underlying hu, Builtin.lenOf, sizeOf, typeInfo, hq, hi, ← hn, hfc, hst]
theorem wp_copyK (w : World) {o : Oper} {a : Act} {K : Act → World → Prop} {Q : Exit → Act → World → Prop} (d s : Operand) (t t' : TypeId)
    (ho : o.op = .call { callee := .builtin .copy, args := #[d, s], argTypes := #[t, t'] }) (v u : Value) (hd : a.eval d = v) (hs : a.eval s = u) {v' : Value} {w' : World}
    (hr : (Builtin.copy_ #[t, t'] o.type #[v, u]).run Tryz.prog w = .ok v' w') (h : K (a.put o.dst v') w') : o.wp Tryz.prog a w K Q := by
  unfold Oper.wp execOp
  simp only [ho, resolve, invoke, builtin, Sem.run_bind, Sem.run_pure, Result.andThen_ok, List.map_toArray, List.map_cons, List.map_nil, hd, hs, hr]
  exact h
theorem wpList_copyK (w : World) {ops : Array Oper} {rest : List Oper} {o : Oper} {a : Act} {Q : Exit → Act → World → Prop} (hgd : o.guard = none) (d s : Operand) (t t' : TypeId)
    (ho : o.op = .call { callee := .builtin .copy, args := #[d, s], argTypes := #[t, t'] }) (v u : Value) (hd : a.eval d = v) (hs : a.eval s = u) {v' : Value} {w' : World}
    (hr : (Builtin.copy_ #[t, t'] o.type #[v, u]).run Tryz.prog w = .ok v' w') (h : wpList Tryz.prog ops Q rest (a.put o.dst v') w') : wpList Tryz.prog ops Q (o :: rest) a w :=
  wpList_plain hgd fun _ hK => wp_copyK w d s t t' ho v u hd hs hr (hK _ _ h)
/-- An element has come in at i. -/
def insF (K i : Nat) (xs news : List Value) : List Value := xs.take (i * K) ++ news ++ xs.drop (i * K)
def InsPost (T K n0 n i : Nat) (v : Value) (xs news : List Value) (w : World) (e : Ending) (w' : World) : Prop :=
  ∃ v', e = .returned v' ∧ w'.ownsRow n0 T K v' (n + 1) (insF K i xs news) ∧ w.grownBy w' v.ownBlock
set_option maxHeartbeats 4000000 in
set_option maxRecDepth 100000 in
theorem insU_end (v : Value) (n : Nat) (xs news : List Value) (vb n0 : Nat) (w : World) (ho : w.ownsRow n0 63 2 v n xs) (hv : w.heap[vb]? = some (.cells news.toArray 63 (0, 0))) (hl : news.length = 2) (h1 : ∀ u ∈ news, u.oneCell' = true) (hm : n ≤ 1000000) (hn0 : n0 ≤ w.heap.size) :
    Calls Tryz.prog 55 #[v, .int .i64 (n : Int), .slice (some ⟨vb, 0, none⟩) 1 1] w fun e w' => InsPost 63 2 n0 n n v xs news w e w' := by
  obtain ⟨i0, j1, j2, j3, j4⟩ := info_of info63
  have hnews : ∀ j u, news[j]? = some u → w.cell? ((⟨vb, 0, none⟩ : Addr).add j) = some u := fun j u hj => by
    rw [Addr.add_lit, Nat.zero_add]
    exact cell_in hv hj
  have HN := Aside0.mk hnews
  have HO := Aside0.mk ho
  have hx : insF 2 n xs news = xs ++ news := by
    unfold insF
    rw [List.take_of_length_le (by rw [ho.1]; exact Nat.le_refl _), List.drop_of_length_le (by rw [ho.1]; exact Nat.le_refl _), List.append_nil]
  have PP : Aside0 (∀ v' w', w'.ownsRow n0 63 2 v' (n + 1) (xs ++ news) → w.grownBy w' v.ownBlock → InsPost 63 2 n0 n n v xs news w (.returned v') w') := ⟨fun v' w' a b => ⟨v', rfl, by rw [hx]; exact a, b⟩⟩
  obtain ⟨A, c, rfl, hc⟩ := (Reads.of_own ho).form
  have hnc : (n : Int) ≤ (c : Int) := by omega
  clear ho hv hnews hx
  by_cases hcn : c = n
  · subst hcn
    go_enter Tryz.func55, Tryz.ntmps55
    go_upto_region 7 with fail
    go_wp2_with (at_builtin; refine Aside0.out ?_)
    refine ⟨?_⟩
    refine wpList_append_own _ rfl (.tmp 23) (.tmp 24) 24 rfl n0 63 i0 _ 2 40 Tryz.underlying24 j1 j2 j3 j4 rfl (by decide) _ c xs rfl HO.out ⟨vb, 0, none⟩ 1 1 news rfl (by omega) HN.out h1 (by simp only [maxLen]; omega) (by omega) hn0 ?_
    intro v' w' h2 h3 _
    go_wp2_with fail
    go_ret
    exact PP.out v' w' h2 h3
  · go_enter Tryz.func55, Tryz.ntmps55
    go_upto_region 7 with fail
    go_wp2_with (at_builtin; refine Aside0.out ?_)
    refine ⟨?_⟩
    refine wpList_append_own _ rfl (.tmp 23) (.tmp 24) 24 rfl n0 63 i0 _ 2 40 Tryz.underlying24 j1 j2 j3 j4 rfl (by decide) _ n xs rfl HO.out ⟨vb, 0, none⟩ 1 1 news rfl (by omega) HN.out h1 (by simp only [maxLen]; omega) (by omega) hn0 ?_
    intro v' w' h2 h3 _
    go_wp2_with fail
    go_ret
    exact PP.out v' w' h2 h3
set_option maxHeartbeats 4000000 in
set_option maxRecDepth 100000 in
theorem insU_room (g cap n i : Nat) (xs news : List Value) (vb n0 : Nat) (w : World) (ho : w.ownsRow n0 63 2 (.slice (some ⟨g, 0, none⟩) n cap) n xs) (hv : w.heap[vb]? = some (.cells news.toArray 63 (0, 0))) (hl : news.length = 2) (h1 : ∀ u ∈ news, u.oneCell' = true) (h1x : ∀ u ∈ xs, u.oneCell' = true) (hm : n ≤ 1000000) (hi : i < n) (hroom : n + 1 ≤ cap) (hne : vb ≠ g) :
    Calls Tryz.prog 55 #[.slice (some ⟨g, 0, none⟩) n cap, .int .i64 (i : Int), .slice (some ⟨vb, 0, none⟩) 1 1] w fun e w' => InsPost 63 2 n0 n i (.slice (some ⟨g, 0, none⟩) n cap) xs news w e w' := by
  obtain ⟨cur, hg, hgb, hcap, hcs, htk⟩ : ∃ cur, w.heap[g]? = some (.cells cur 63 (0, 0)) ∧ n0 ≤ g ∧ cap ≤ maxLen ∧ cur.size = cap * 2 ∧ cur.toList.take (n * 2) = xs := by
    rcases ho.2 with ⟨h, _⟩ | ⟨g', cap', cur, h, a, b, _, c, d, e⟩
    · injection h with h; cases h
    · injection h with h _ h3
      injection h with h
      injection h with h
      subst h
      subst h3
      exact ⟨cur, b, a, c, d, e⟩
  have hxl : xs.length = n * 2 := ho.1
  have hcell : ∀ j, j < cap * 2 → ∃ u, w.cell? ⟨g, j, none⟩ = some u := fun j hj => by
    have hj2 : j < cur.size := by omega
    refine ⟨cur[j], ?_⟩
    simp only [World.cell?, hg]
    exact Array.getElem?_eq_getElem hj2
  have hxc : ∀ j u, xs[j]? = some u → w.cell? ⟨g, j, none⟩ = some u := fun j u hj => by
    have := ho.cells (g := g) rfl j u hj
    rwa [Addr.add_lit, Nat.zero_add] at this
  have hfz : ∀ j, w.frozen? ⟨g, j, none⟩ = false := fun j => by simp [World.frozen?, hg]
  have hdl : (xs.drop (i * 2)).length = (n - i) * 2 := by rw [List.length_drop, hxl, Nat.sub_mul]
  have hcp : 0 < cap := by omega
  have hov : ∀ (W : World) lb cb, W.heap[g]? = some (.cells cur 63 (0, 0)) → W.heap[vb]? = some (.cells news.toArray 63 (0, 0)) → (callFunc 71 #[.slice (some ⟨vb, 0, none⟩) 1 1, .slice (some ⟨g, (i + 1) * 2, none⟩) lb cb]).run Tryz.prog W = .ok (.value (.bool false)) W := fun W lb cb hg2 hv2 => by
    rw [run_callFunc_extern Tryz.func71 (by kernel_rfl) (by kernel_rfl) (by kernel_rfl) (e := Extern.SlicesOverlaps.overlaps #[24, 24] #[4]) (by kernel_rfl),
      Lib.run_overlaps_apart W 24 4 63 Tryz.underlying24 2 Tryz.sizeOf63 ⟨vb, 0, none⟩ ⟨g, (i + 1) * 2, none⟩ 1 1 lb cb hne 63 63 news.toArray.size cur.size (by simp [World.shape?, hv2]) (by simp [World.shape?, hg2]) (by rw [hcs]; omega) (by simp [World.frozen?, hv2]) (by simp [World.frozen?, hv2])]
    rfl
  have hov0 := hov w
  have hsz : (Tryz.prog.info? 63).map (·.size) = some 2 := by kernel_rfl
  have hii : ¬ ((i : Int) = (n : Int)) := by omega
  have hnci : ¬ (cap = i) := by omega
  have hnci1 : ¬ (cap = i + 1) := by omega
  have hi1n : (i : Int) + 1 ≤ (n : Int) + 1 := by omega
  have hi1c : (i : Int) + 1 ≤ (cap : Int) := by omega
  have hn1c : (n : Int) + 1 ≤ (cap : Int) := by omega
  have htn : ((i : Int) + 1).toNat = i + 1 := by omega
  have htn2 : ((n : Int) + 1).toNat = n + 1 := by omega
  have hin : (i : Int) ≤ (n : Int) := by omega
  have hic : (i : Int) ≤ (cap : Int) := by omega
  have hw1 : IntKind.i64.wrap ((n : Int) + 1) = (n : Int) + 1 := by simp [IntKind.wrap, IntKind.bits, IntKind.signed]; omega
  have hw2 : IntKind.i64.wrap ((i : Int) + 1) = (i : Int) + 1 := by simp [IntKind.wrap, IntKind.bits, IntKind.signed]; omega
  have hng : ¬ ((n : Int) + 1 > (cap : Int)) := by omega
  go_enter Tryz.func55, Tryz.ntmps55
  have hov1 : ∀ lb cb, (callFunc 71 #[.slice (some ⟨vb, 0, none⟩) 1 1, .slice (some ⟨g, (i + 1) * 2, none⟩) lb cb]).run Tryz.prog w = .ok (.value (.bool false)) w := fun lb cb => hov0 lb cb hg hv
  have HH := Aside0.mk (And.intro hg (And.intro hgb (And.intro hcap (And.intro hcs (And.intro htk hxl)))))
  have HCELL := Aside0.mk hcell
  have HXC := Aside0.mk hxc
  have HV := Aside0.mk hv
  have HL := Aside0.mk hl
  have HH1 := Aside0.mk (And.intro h1 h1x)
  have HDL := Aside0.mk hdl
  have HFZ := Aside0.mk hfz
  clear hg hgb hcap hcs htk hxl hcell hxc hv hl h1 h1x hdl hov hov0 ho hfz
  go_upto_region 15 with (simp only [hov1])
  have hb1 : (0 : Int) ≤ (i : Int) + 1 := by omega
  have hb3 : (i : Int) ≤ (n : Int) + 1 := by omega
  have hcpA : ∀ W : World, W.heap = w.heap → ∀ ty dc sc, (Builtin.copy_ #[24, 24] ty #[.slice (some ⟨g, (i + 1) * 2, none⟩) (n - i) dc, .slice (some ⟨g, i * 2, none⟩) (n + 1 - i) sc]).run Tryz.prog W = .ok (goInt ((n - i : Nat) : Int)) (W.setCells g ((i + 1) * 2) (xs.drop (i * 2))) := fun W hW ty dc sc =>
    run_copyK W 24 ty 63 2 g ((i + 1) * 2) (n - i) dc ⟨g, i * 2, none⟩ (n + 1 - i) sc (n - i) (xs.drop (i * 2)) Tryz.underlying24 hsz (by simp only [Nat.min_def]; split <;> omega) HDL.out
      (fun j v hj => by
        rw [Addr.add_lit]
        rw [List.getElem?_drop] at hj
        rw [World.cell?, hW]
        exact HXC.out _ v hj)
      (fun j hj => by
        rw [HDL.out] at hj
        obtain ⟨u, hu⟩ := HCELL.out ((i + 1) * 2 + j) (by omega)
        rw [World.cell?] at hu
        rw [World.cell?, hW, hu]; rfl)
      (fun j _ => by
        have := HFZ.out ((i + 1) * 2 + j)
        rw [World.frozen?] at this
        rw [World.frozen?, hW, this]) (fun v hv => HH1.out.2 v (List.mem_of_mem_drop hv))
  obtain ⟨cur1, g1, g2, g3⟩ : ∃ cur1, (w.drew.setCells g ((i + 1) * 2) (xs.drop (i * 2))).heap[g]? = some (.cells cur1 63 (0, 0)) ∧ cur1.size = cap * 2 ∧ cur1.toList.take ((n + 1) * 2) = xs.take (i * 2) ++ cur.toList.extract (i * 2) ((i + 1) * 2) ++ xs.drop (i * 2) := by
    obtain ⟨hg, hgb, hcap, hcs, htk, hxl⟩ := HH.out
    obtain ⟨c1, q1, q2, q3⟩ := setCells_row (xs.drop (i * 2)) ((i + 1) * 2) w.drew cur hg (by rw [HDL.out, hcs]; omega)
    refine ⟨c1, q1, by rw [q2, hcs], ?_⟩
    have hcl : cur.toList.length = cap * 2 := by rw [Array.length_toList, hcs]
    have e1 : xs.take (i * 2) = cur.toList.take (i * 2) := by rw [← htk, List.take_take, Nat.min_eq_left (by omega)]
    have e2 : cur.toList.take ((i + 1) * 2) = cur.toList.take (i * 2) ++ cur.toList.extract (i * 2) ((i + 1) * 2) := by
      rw [List.extract_eq_take_drop, ← List.take_add]
      congr 1
      omega
    rw [q3, e1, ← e2, List.take_append_of_le_length (by rw [List.length_append, List.length_take, HDL.out, hcl]; omega), List.take_of_length_le (by rw [List.length_append, List.length_take, HDL.out, hcl]; omega)]
  obtain ⟨W1, hW1⟩ : ∃ W1, W1 = w.drew.setCells g ((i + 1) * 2) (xs.drop (i * 2)) := ⟨_, rfl⟩
  have s1 := setCells_same g (xs.drop (i * 2)) ((i + 1) * 2) w.drew
  rw [← hW1] at g1 s1
  have hfar1 : ∀ k, k ≠ g → W1.heap[k]? = w.heap[k]? := fun k hk => by rw [hW1]; exact setCells_far (xs.drop (i * 2)) ((i + 1) * 2) k hk
  have hcpB : ∀ ty dc, (Builtin.copy_ #[24, 24] ty #[.slice (some ⟨g, i * 2, none⟩) (n + 1 - i) dc, .slice (some ⟨vb, 0, none⟩) 1 1]).run Tryz.prog W1 = .ok (goInt ((1 : Nat) : Int)) (W1.setCells g (i * 2) news) := fun ty dc =>
    run_copyK W1 24 ty 63 2 g (i * 2) (n + 1 - i) dc ⟨vb, 0, none⟩ 1 1 1 news Tryz.underlying24 hsz (by simp only [Nat.min_def]; split <;> omega) (by rw [HL.out])
      (fun j v hj => by
        rw [Addr.add_lit, Nat.zero_add]
        exact cell_in (by rw [hfar1 vb hne]; exact HV.out) hj)
      (fun j hj => by
        rw [HL.out] at hj
        simp only [World.cell?, g1]
        have : i * 2 + j < cur1.size := by omega
        rw [Array.getElem?_eq_getElem this]; rfl)
      (fun j _ => by simp [World.frozen?, g1]) HH1.out.1
  obtain ⟨cur2, g4, g5, g6⟩ := setCells_row news (i * 2) W1 cur1 g1 (by rw [HL.out, g2]; omega)
  have s2 := setCells_same g news (i * 2) W1
  have hfar2 : ∀ k, k ≠ g → (W1.setCells g (i * 2) news).heap[k]? = w.heap[k]? := fun k hk => by rw [setCells_far news (i * 2) k hk, hfar1 k hk]
  have PP : Aside0 (InsPost 63 2 n0 n i (.slice (some ⟨g, 0, none⟩) n cap) xs news w (.returned (.slice (some ⟨g, 0, none⟩) (n + 1) cap)) (W1.setCells g (i * 2) news)) := ⟨by
    obtain ⟨hg, hgb, hcap, hcs, htk, hxl⟩ := HH.out
    have hcl : cur.toList.length = cap * 2 := by rw [Array.length_toList, hcs]
    have hc1l : cur1.toList.length = cap * 2 := by rw [Array.length_toList, g2]
    have hnl := HL.out
    have hel : (cur.toList.extract (i * 2) ((i + 1) * 2)).length = 2 := by rw [List.extract_eq_take_drop, List.length_take, List.length_drop, hcl]; omega
    refine ⟨_, rfl, ⟨?_, .inr ⟨g, cap, cur2, rfl, hgb, g4, hroom, hcap, by rw [g5, g2], ?_⟩⟩, ⟨?_, ?_, ?_, ?_, ?_⟩⟩
    · simp only [insF, List.length_append, List.length_take, List.length_drop, hxl, hnl]; omega
    · have hA : cur1.toList.take (i * 2) = xs.take (i * 2) := by
        have : cur1.toList.take (i * 2) = (cur1.toList.take ((n + 1) * 2)).take (i * 2) := by rw [List.take_take, Nat.min_eq_left (by omega)]
        rw [this, g3, List.append_assoc, List.take_append_of_le_length (by rw [List.length_take, hxl]; omega), List.take_take, Nat.min_self]
      have hB : (cur1.toList.drop (i * 2 + 2)).take ((n - i) * 2) = xs.drop (i * 2) := by
        have : (cur1.toList.drop (i * 2 + 2)).take ((n - i) * 2) = (cur1.toList.take ((n + 1) * 2)).drop (i * 2 + 2) := by rw [List.drop_take]; congr 1; omega
        rw [this, g3, List.drop_append, List.drop_of_length_le (by rw [List.length_append, List.length_take, hel, hxl]; omega), List.nil_append, List.length_append, List.length_take, hel, hxl, Nat.min_eq_left (by omega), Nat.sub_self, List.drop_zero]
      rw [g6, hA, hnl, insF, List.take_append, List.take_of_length_le (by rw [List.length_append, List.length_take, hnl, hxl]; omega)]
      congr 1
      rw [← hB, List.length_append, List.length_take, hnl, hxl]
      congr 1
      omega
    · rw [s2.1, s1.1]; rfl
    · rw [s2.2.1, s1.2.1]; rfl
    · rw [s2.2.2.1, s1.2.2.1]; rfl
    · rw [s2.2.2.2, s1.2.2.2]; exact Nat.le_refl _
    · intro k hk hne2
      exact hfar2 k (fun hh => hne2 (by rw [hh]; rfl))⟩
  clear hfar1 hfar2 s1 s2 g1 g2 g3 g4 g5 g6
  subst hW1
  refine wp_region_held_drew (S := (fun _ => True)) (by kernel_rfl) (by trivial) (fun hHeld => ?_)
  refine wpAnyH_take (i := 0) (oi := _) (v := ?_) rfl (by kernel_rfl) (by kernel_rfl) (by kernel_rfl) (fun _ _ _ h => h) (Or.inl ⟨by rfl, ?_⟩) (by assumption) ?_
  rotate_left
  · (intro w hSw; (try dsimp only at hSw); go_simp; (try with_reducible rfl))
  (try simp only [uA, uB, uC, uD, uE, uF, uG, uH])
  refine wpAnyH_take (i := 1) (oi := _) (v := ?_) rfl (by kernel_rfl) (by kernel_rfl) (by kernel_rfl) (fun _ _ _ h => h) (Or.inl ⟨by rfl, ?_⟩) (by assumption) ?_
  rotate_left
  · (intro w hSw; (try dsimp only at hSw); go_simp; (try with_reducible rfl))
  (try simp only [uA, uB, uC, uD, uE, uF, uG, uH])
  refine wpAnyH_take (i := 2) (oi := _) (v := ?_) rfl (by kernel_rfl) (by kernel_rfl) (by kernel_rfl) (fun _ _ _ h => h) (Or.inl ⟨by rfl, ?_⟩) (by assumption) ?_
  rotate_left
  · (intro w hSw; (try dsimp only at hSw); go_simp; (try with_reducible rfl))
  (try simp only [uA, uB, uC, uD, uE, uF, uG, uH])
  refine wpAnyH_take (i := 3) (oi := _) (v := ?_) rfl (by kernel_rfl) (by kernel_rfl) (by kernel_rfl) (fun _ _ _ h => h) (Or.inl ⟨by rfl, ?_⟩) (by assumption) ?_
  rotate_left
  · (intro w hSw; (try dsimp only at hSw); go_simp; (try with_reducible rfl))
  (try simp only [uA, uB, uC, uD, uE, uF, uG, uH])
  refine wpAnyH_take (i := 4) (oi := _) (v := ?_) rfl (by kernel_rfl) (by kernel_rfl) (by kernel_rfl) (fun _ _ _ h => h) (Or.inl ⟨by rfl, ?_⟩) (by assumption) ?_
  rotate_left
  · (intro w hSw; (try dsimp only at hSw); go_simp; (try with_reducible rfl))
  (try simp only [uA, uB, uC, uD, uE, uF, uG, uH])
  refine wpAnyH_take (i := 5) (oi := _) (v := ?_) rfl (by kernel_rfl) (by kernel_rfl) (by kernel_rfl) (fun _ _ _ h => h) (Or.inl ⟨by rfl, ?_⟩) (by assumption) ?_
  rotate_left
  · (intro w hSw; (try dsimp only at hSw); go_simp; (try with_reducible rfl))
  (try simp only [uA, uB, uC, uD, uE, uF, uG, uH])
  refine wpAnyH_take (i := 6) (oi := _) (v := ?_) rfl (by kernel_rfl) (by kernel_rfl) (by kernel_rfl) (fun _ _ _ h => h) (Or.inl ⟨by rfl, ?_⟩) (by assumption) ?_
  rotate_left
  · (intro w hSw; (try dsimp only at hSw); go_simp; (try with_reducible rfl))
  (try simp only [uA, uB, uC, uD, uE, uF, uG, uH])
  refine wpAnyH_take (i := 7) (oi := _) (v := ?_) rfl (by kernel_rfl) (by kernel_rfl) (by kernel_rfl) (fun _ _ _ h => h) (Or.inl ⟨by rfl, ?_⟩) (by assumption) ?_
  rotate_left
  · (intro w hSw; (try dsimp only at hSw); go_simp; (try with_reducible rfl))
  (try simp only [uA, uB, uC, uD, uE, uF, uG, uH])
  refine wpAnyH_ready (rs := [8]) (by kernel_rfl) (by decide) (AllReadyH.cons rfl (fun K' hK => ?_) AllReadyH.nil)
  rw [if_pos (by rfl)]
  refine wp_copyK _ _ _ 24 24 rfl _ _ rfl rfl (hcpA w.drew rfl 3 _ _) ?_
  refine hK.out _ _ (by trivial) (fun hHeld => ?_)
  clear hK
  (try simp only [uA, uB, uC, uD, uE, uF, uG, uH])
  refine wpAnyH_done (by kernel_rfl) ?_ _
  go_wp2_with (at_builtin; refine wpList_copy_runI _ rfl _ _ 24 24 rfl _ _ rfl rfl (hcpB _ _) ?_)
  go_ret
  exact PP.out
set_option maxHeartbeats 4000000 in
set_option maxRecDepth 100000 in
theorem insU_grow (g cap n i : Nat) (xs news : List Value) (vb n0 : Nat) (w : World) (ho : w.ownsRow n0 63 2 (.slice (some ⟨g, 0, none⟩) n cap) n xs) (hv : w.heap[vb]? = some (.cells news.toArray 63 (0, 0))) (hl : news.length = 2) (h1 : ∀ u ∈ news, u.oneCell' = true) (h1x : ∀ u ∈ xs, u.oneCell' = true) (hm : n ≤ 1000000) (hi : i < n) (hroom : cap < n + 1) (hn0 : n0 ≤ w.heap.size) :
    Calls Tryz.prog 55 #[.slice (some ⟨g, 0, none⟩) n cap, .int .i64 (i : Int), .slice (some ⟨vb, 0, none⟩) 1 1] w fun e w' => InsPost 63 2 n0 n i (.slice (some ⟨g, 0, none⟩) n cap) xs news w e w' := by
  obtain ⟨cur, hg, hcn⟩ : ∃ cur, w.heap[g]? = some (.cells cur 63 (0, 0)) ∧ n ≤ cap := by
    rcases ho.2 with ⟨h, _⟩ | ⟨g', cap', cur, h, a, b, c, d, e, f⟩
    · injection h with h; cases h
    · injection h with h _ h3
      injection h with h
      injection h with h
      subst h
      subst h3
      exact ⟨cur, b, c⟩
  obtain ⟨i0, j1, j2, j3, j4⟩ := info_of info63
  have hgl : g < w.heap.size := (Array.getElem?_eq_some_iff.1 hg).1
  have hvl : vb < w.heap.size := (Array.getElem?_eq_some_iff.1 hv).1
  have hxl : xs.length = n * 2 := ho.1
  have hxc : ∀ j u, xs[j]? = some u → w.cell? ⟨g, j, none⟩ = some u := fun j u hj => by
    have := ho.cells (g := g) rfl j u hj
    rwa [Addr.add_lit, Nat.zero_add] at this
  have hdl : (xs.drop (i * 2)).length = (n - i) * 2 := by rw [List.length_drop, hxl, Nat.sub_mul]
  have htl : (xs.take (i * 2)).length = i * 2 := by rw [List.length_take, hxl]; omega
  have hsz : (Tryz.prog.info? 63).map (·.size) = some 2 := by kernel_rfl
  have hold : (Builtin.firstCells i0.size i (.slice (some ⟨g, 0, none⟩) i cap)).run Tryz.prog w.drew = .ok (xs.take (i * 2)).toArray w.drew := by
    rw [j3]
    exact run_firstCells_some w.drew 2 i ⟨g, 0, none⟩ i cap (xs.take (i * 2)) htl (fun j v hj => by
      rw [Addr.add_lit, Nat.zero_add]
      rw [List.getElem?_take] at hj
      split at hj
      · exact hxc j v hj
      · cases hj)
  have hkk : (n : Int) + 1 - (i : Int) = ((n + 1 - i : Nat) : Int) := by omega
  have hik : i + (n + 1 - i) = n + 1 := by omega
  obtain ⟨G, hG⟩ : ∃ G, G = grownCap w (n + 1) cap 63 := ⟨_, rfl⟩
  obtain ⟨ROW, hROW⟩ : ∃ ROW : Array Value, ROW = (xs.take (i * 2)).toArray ++ Builtin.zeroCells (Value.agg #[.string ⟨#[]⟩, .slice none 0 0]).cells (n + 1 - i) ++ Builtin.zeroCells (Value.agg #[.string ⟨#[]⟩, .slice none 0 0]).cells (G - (n + 1)) := ⟨_, rfl⟩
  have hrz : ∀ ty, (Builtin.append_ #[24, 3] ty #[.slice (some ⟨g, 0, none⟩) i cap, .int .i64 ((n : Int) + 1 - (i : Int))]).run Tryz.prog w =
      .ok (.slice (some ⟨w.heap.size, 0, none⟩) (n + 1) G) (w.drew.alloc (.cells ROW 63)) := fun ty => by
    have h := Lib.run_append_grow_zeros w 24 3 ty 63 i0 _ .i64 .i64 Tryz.underlying24 Tryz.underlying3 j1 j2 (some ⟨g, 0, none⟩) i cap (xs.take (i * 2)) hold (n + 1 - i) (by omega) (by omega) (by omega) (by omega) (by rw [j4]; omega) (by rw [j4, hik]; exact growslice_fits (by omega) (by omega))
    rw [hik] at h
    rw [hkk, h, hROW, hG]
  have hGn : n + 1 ≤ G := by rw [hG]; exact grownCap_ge w _ _ _
  have hGm : G ≤ maxLen := by rw [hG]; exact grownCap_le_maxLen w (n + 1) cap 63 (by simp only [maxLen]; omega)
  have hRs : ROW.size = G * 2 := by
    rw [hROW, Array.size_append, Array.size_append, size_zeroCells, size_zeroCells, List.size_toArray, htl, show ((Value.agg #[.string ⟨#[]⟩, .slice none 0 0]).cells).size = 2 from rfl]
    omega
  have hRt : ROW.toList.take (i * 2) = xs.take (i * 2) := by
    rw [hROW, Array.toList_append, Array.toList_append, List.append_assoc, List.toList_toArray, List.take_append_of_le_length (by rw [htl]; exact Nat.le_refl _), List.take_take, Nat.min_self]
  clear hROW hold hkk hik hG
  obtain ⟨W1, hW1⟩ : ∃ W1, W1 = (w.alloc (.cells ROW 63)).drew := ⟨_, rfl⟩
  have hW1s : W1.heap.size = w.heap.size + 1 := by rw [hW1]; exact Array.size_push _
  have hW1g : W1.heap[w.heap.size]? = some (.cells ROW 63 (0, 0)) := by
    rw [hW1]
    exact Array.getElem?_push_size
  have hfar0 : ∀ k, k < w.heap.size → W1.heap[k]? = w.heap[k]? := fun k hk => by rw [hW1]; exact Below.heap_alloc (w := w) _ k hk
  have hos : W1.os = w.os ∧ W1.tape = w.tape ∧ W1.output = w.output := by rw [hW1]; exact ⟨rfl, rfl, rfl⟩
  have hcpA : ∀ ty dc, (Builtin.copy_ #[24, 24] ty #[.slice (some ⟨w.heap.size, i * 2, none⟩) (n + 1 - i) dc, .slice (some ⟨vb, 0, none⟩) 1 1]).run Tryz.prog W1 = .ok (goInt ((1 : Nat) : Int)) (W1.setCells w.heap.size (i * 2) news) := fun ty dc =>
    run_copyK W1 24 ty 63 2 w.heap.size (i * 2) (n + 1 - i) dc ⟨vb, 0, none⟩ 1 1 1 news Tryz.underlying24 hsz (by simp only [Nat.min_def]; split <;> omega) (by rw [hl])
      (fun j v hj => by
        rw [Addr.add_lit, Nat.zero_add]
        exact cell_in (by rw [hfar0 vb hvl]; exact hv) hj)
      (fun j hj => by
        rw [hl] at hj
        simp only [World.cell?, hW1g]
        have : i * 2 + j < ROW.size := by rw [hRs]; omega
        rw [Array.getElem?_eq_getElem this]; rfl)
      (fun j _ => by simp [World.frozen?, hW1g]) h1
  obtain ⟨cur2, g4, g5, g6⟩ := setCells_row news (i * 2) W1 ROW hW1g (by rw [hl, hRs]; omega)
  have s2 := setCells_same w.heap.size news (i * 2) W1
  have hfar2 : ∀ k, k < w.heap.size → (W1.setCells w.heap.size (i * 2) news).heap[k]? = w.heap[k]? := fun k hk => by rw [setCells_far news (i * 2) k (by omega), hfar0 k hk]
  obtain ⟨W2, hW2⟩ : ∃ W2, W2 = W1.setCells w.heap.size (i * 2) news := ⟨_, rfl⟩
  rw [← hW2] at g4 s2 hfar2
  have hcpB : ∀ W : World, W.heap = W2.heap → ∀ ty dc sc, (Builtin.copy_ #[24, 24] ty #[.slice (some ⟨w.heap.size, (i + 1) * 2, none⟩) (n - i) dc, .slice (some ⟨g, i * 2, none⟩) (n - i) sc]).run Tryz.prog W = .ok (goInt ((n - i : Nat) : Int)) (W.setCells w.heap.size ((i + 1) * 2) (xs.drop (i * 2))) := fun W hW ty dc sc =>
    run_copyK W 24 ty 63 2 w.heap.size ((i + 1) * 2) (n - i) dc ⟨g, i * 2, none⟩ (n - i) sc (n - i) (xs.drop (i * 2)) Tryz.underlying24 hsz (by simp only [Nat.min_def]; split <;> omega) hdl
      (fun j v hj => by
        rw [Addr.add_lit]
        rw [List.getElem?_drop] at hj
        have := hxc _ v hj
        rw [World.cell?] at this ⊢
        rw [hW]
        rw [hfar2 g hgl]
        exact this)
      (fun j hj => by
        rw [hdl] at hj
        simp only [World.cell?, hW, g4]
        have : (i + 1) * 2 + j < cur2.size := by rw [g5, hRs]; omega
        rw [Array.getElem?_eq_getElem this]; rfl)
      (fun j _ => by simp [World.frozen?, hW, g4]) (fun v hv => h1x v (List.mem_of_mem_drop hv))
  have PP : Aside0 (∀ W : World, W.heap = W2.heap → W.os = W2.os → W.tape = W2.tape → W.output = W2.output → InsPost 63 2 n0 n i (.slice (some ⟨g, 0, none⟩) n cap) xs news w (.returned (.slice (some ⟨w.heap.size, 0, none⟩) (n + 1) G)) (W.setCells w.heap.size ((i + 1) * 2) (xs.drop (i * 2)))) := ⟨fun W hW hWo hWt hWp => by
    obtain ⟨cur3, g7, g8, g9⟩ := setCells_row (xs.drop (i * 2)) ((i + 1) * 2) W cur2 (by rw [hW]; exact g4) (by rw [hdl, g5, hRs]; omega)
    have s3 := setCells_same w.heap.size (xs.drop (i * 2)) ((i + 1) * 2) W
    refine ⟨_, rfl, ⟨?_, .inr ⟨w.heap.size, G, cur3, rfl, hn0, g7, hGn, hGm, by rw [g8, g5, hRs], ?_⟩⟩, ⟨?_, ?_, ?_, ?_, ?_⟩⟩
    · simp only [insF, List.length_append, htl, hdl, hl]; omega
    · have hA : cur2.toList.take ((i + 1) * 2) = xs.take (i * 2) ++ news := by
        rw [g6, hRt, List.take_append_of_le_length (by rw [List.length_append, htl, hl]; omega), List.take_of_length_le (by rw [List.length_append, htl, hl]; omega)]
      rw [g9, hA, List.take_append_of_le_length (by rw [List.length_append, List.length_append, htl, hl, hdl]; omega), List.take_of_length_le (by rw [List.length_append, List.length_append, htl, hl, hdl]; omega), insF]
    · rw [s3.1, hWo, s2.1, hos.1]
    · rw [s3.2.1, hWt, s2.2.1, hos.2.1]
    · rw [s3.2.2.1, hWp, s2.2.2.1, hos.2.2]
    · rw [s3.2.2.2, hW, s2.2.2.2, hW1s]; omega
    · intro k hk _
      rw [setCells_far _ _ k (by omega), hW]
      exact hfar2 k hk⟩
  clear hfar0 hfar2 s2 g4 g5 g6 hos hW1s hW1g hRt hRs
  subst hW2
  subst hW1
  have hii : ¬ ((i : Int) = (n : Int)) := by omega
  have hnci : ¬ (cap = i) := by omega
  have hGi : ¬ (G = i) := by omega
  have hGi1 : ¬ (G = i + 1) := by omega
  have hi1n : (i : Int) + 1 ≤ (n : Int) + 1 := by omega
  have hb1 : (0 : Int) ≤ (i : Int) + 1 := by omega
  have hb3 : (i : Int) ≤ (n : Int) + 1 := by omega
  have hi1c : (i : Int) + 1 ≤ (G : Int) := by omega
  have hic2 : (i : Int) ≤ (G : Int) := by omega
  have htn : ((i : Int) + 1).toNat = i + 1 := by omega
  have htn2 : ((n : Int) + 1).toNat = n + 1 := by omega
  have hin : (i : Int) ≤ (n : Int) := by omega
  have hic : (i : Int) ≤ (cap : Int) := by omega
  have hw1 : IntKind.i64.wrap ((n : Int) + 1) = (n : Int) + 1 := by simp [IntKind.wrap, IntKind.bits, IntKind.signed]; omega
  have hw2 : IntKind.i64.wrap ((i : Int) + 1) = (i : Int) + 1 := by simp [IntKind.wrap, IntKind.bits, IntKind.signed]; omega
  have hw3 : IntKind.i64.wrap ((n : Int) + 1 - (i : Int)) = (n : Int) + 1 - (i : Int) := by simp [IntKind.wrap, IntKind.bits, IntKind.signed]; omega
  have hng : (n : Int) + 1 > (cap : Int) := by omega
  have HRZ := Aside0.mk hrz
  have HA := Aside0.mk hcpA
  have HB := Aside0.mk hcpB
  clear hrz hcpA hcpB hxc hxl hv hg ho htl hdl h1 h1x
  generalize w.heap.size = B at *
  go_enter Tryz.func55, Tryz.ntmps55
  go_upto_region 10 with (at_builtin; refine Lib.wpList_append_run _ rfl _ _ _ _ rfl _ _ rfl rfl _ _ (HRZ.out _) ?_)
  have hA2 := HA.out
  go_wp2_with fail
  clear hA2
  refine wp_region_held_drew (S := (fun _ => True)) (by kernel_rfl) (by trivial) (fun hHeld => ?_)
  refine wpAnyH_take (i := 0) (oi := _) (v := ?_) rfl (by kernel_rfl) (by kernel_rfl) (by kernel_rfl) (fun _ _ _ h => h) (Or.inl ⟨by rfl, ?_⟩) (by assumption) ?_
  rotate_left
  · (intro w hSw; (try dsimp only at hSw); go_simp; (try with_reducible rfl))
  (try simp only [uA, uB, uC, uD, uE, uF, uG, uH])
  refine wpAnyH_take (i := 1) (oi := _) (v := ?_) rfl (by kernel_rfl) (by kernel_rfl) (by kernel_rfl) (fun _ _ _ h => h) (Or.inl ⟨by rfl, ?_⟩) (by assumption) ?_
  rotate_left
  · (intro w hSw; (try dsimp only at hSw); go_simp; (try with_reducible rfl))
  (try simp only [uA, uB, uC, uD, uE, uF, uG, uH])
  refine wpAnyH_take (i := 2) (oi := _) (v := ?_) rfl (by kernel_rfl) (by kernel_rfl) (by kernel_rfl) (fun _ _ _ h => h) (Or.inl ⟨by rfl, ?_⟩) (by assumption) ?_
  rotate_left
  · (intro w hSw; (try dsimp only at hSw); go_simp; (try with_reducible rfl))
  (try simp only [uA, uB, uC, uD, uE, uF, uG, uH])
  refine wpAnyH_take (i := 3) (oi := _) (v := ?_) rfl (by kernel_rfl) (by kernel_rfl) (by kernel_rfl) (fun _ _ _ h => h) (Or.inl ⟨by rfl, ?_⟩) (by assumption) ?_
  rotate_left
  · (intro w hSw; (try dsimp only at hSw); go_simp; (try with_reducible rfl))
  (try simp only [uA, uB, uC, uD, uE, uF, uG, uH])
  refine wpAnyH_take (i := 4) (oi := _) (v := ?_) rfl (by kernel_rfl) (by kernel_rfl) (by kernel_rfl) (fun _ _ _ h => h) (Or.inl ⟨by rfl, ?_⟩) (by assumption) ?_
  rotate_left
  · (intro w hSw; (try dsimp only at hSw); go_simp; (try with_reducible rfl))
  (try simp only [uA, uB, uC, uD, uE, uF, uG, uH])
  refine wpAnyH_take (i := 5) (oi := _) (v := ?_) rfl (by kernel_rfl) (by kernel_rfl) (by kernel_rfl) (fun _ _ _ h => h) (Or.inl ⟨by rfl, ?_⟩) (by assumption) ?_
  rotate_left
  · (intro w hSw; (try dsimp only at hSw); go_simp; (try with_reducible rfl))
  (try simp only [uA, uB, uC, uD, uE, uF, uG, uH])
  refine wpAnyH_take (i := 6) (oi := _) (v := ?_) rfl (by kernel_rfl) (by kernel_rfl) (by kernel_rfl) (fun _ _ _ h => h) (Or.inl ⟨by rfl, ?_⟩) (by assumption) ?_
  rotate_left
  · (intro w hSw; (try dsimp only at hSw); go_simp; (try with_reducible rfl))
  (try simp only [uA, uB, uC, uD, uE, uF, uG, uH])
  refine wpAnyH_take (i := 7) (oi := _) (v := ?_) rfl (by kernel_rfl) (by kernel_rfl) (by kernel_rfl) (fun _ _ _ h => h) (Or.inl ⟨by rfl, ?_⟩) (by assumption) ?_
  rotate_left
  · (intro w hSw; (try dsimp only at hSw); go_simp; (try with_reducible rfl))
  (try simp only [uA, uB, uC, uD, uE, uF, uG, uH])
  refine wpAnyH_ready (rs := [8]) (by kernel_rfl) (by decide) (AllReadyH.cons rfl (fun K' hK => ?_) AllReadyH.nil)
  rw [if_pos (by rfl)]
  refine wp_copyK _ _ _ 24 24 rfl _ _ rfl rfl (HB.out ((w.alloc (.cells ROW 63)).drew.setCells B (i * 2) news).drew rfl 3 _ _) ?_
  refine hK.out _ _ (by trivial) (fun hHeld => ?_)
  clear hK
  (try simp only [uA, uB, uC, uD, uE, uF, uG, uH])
  refine wpAnyH_done (by kernel_rfl) ?_ _
  go_wp2_with fail
  go_ret
  exact PP.out ((w.alloc (.cells ROW 63)).drew.setCells B (i * 2) news).drew rfl rfl rfl rfl
theorem insU_c (v : Value) (n i : Nat) (xs news : List Value) (vb n0 : Nat) (w : World) (ho : w.ownsRow n0 63 2 v n xs) (hv : w.heap[vb]? = some (.cells news.toArray 63 (0, 0))) (hvb : some vb ≠ v.ownBlock) (hl : news.length = 2) (h1 : ∀ u ∈ news, u.oneCell' = true) (h1x : ∀ u ∈ xs, u.oneCell' = true) (hm : n ≤ 1000000) (hi : i ≤ n) (hn0 : n0 ≤ w.heap.size) :
    Calls Tryz.prog 55 #[v, .int .i64 (i : Int), .slice (some ⟨vb, 0, none⟩) 1 1] w fun e w' => InsPost 63 2 n0 n i v xs news w e w' := by
  by_cases hin : i = n
  · subst hin
    exact insU_end v i xs news vb n0 w ho hv hl h1 hm hn0
  · rcases ho.2 with ⟨h, hx⟩ | ⟨g, cap, cur, h, a, b, c, d, e, f⟩
    · exfalso
      have h2 := ho.1
      subst hx
      simp at h2
      omega
    · subst h
      by_cases hc : n + 1 ≤ cap
      · exact insU_room g cap n i xs news vb n0 w ho hv hl h1 h1x hm (by omega) hc (fun hh => hvb (by rw [hh]; rfl))
      · exact insU_grow g cap n i xs news vb n0 w ho hv hl h1 h1x hm (by omega) (by omega) hn0
end Go.Proofs.YtadkeohohehmcaaGreatDoor.Top
end
section
/- A row of sessions takes an element in. -/
namespace Go.Proofs.YtadkeohohehmcaaGreatDoor.Top
open Go.RowKit Go.Proofs.YtadkeohohehmcaaGreatDoorW.PrintWords Go.Proofs.YtadkeohohehmcaaGreatDoorW.PrintLast Go.Proofs.YtadkeohohehmcaaGreatDoorW.PrintMore Go.Proofs.YtadkeohohehmcaaGreatDoor.PTop
set_option linter.unusedVariables false
set_option linter.unusedSimpArgs false
attribute [local go_sem] Oper.semAt_some
set_option maxHeartbeats 4000000 in
set_option maxRecDepth 100000 in
theorem insS_end (v : Value) (n : Nat) (xs news : List Value) (vb n0 : Nat) (w : World) (ho : w.ownsRow n0 71 4 v n xs) (hv : w.heap[vb]? = some (.cells news.toArray 71 (0, 0))) (hl : news.length = 4) (h1 : ∀ u ∈ news, u.oneCell' = true) (hm : n ≤ 1000000) (hn0 : n0 ≤ w.heap.size) :
    Calls Tryz.prog 31 #[v, .int .i64 (n : Int), .slice (some ⟨vb, 0, none⟩) 1 1] w fun e w' => InsPost 71 4 n0 n n v xs news w e w' := by
  obtain ⟨i0, j1, j2, j3, j4⟩ := info_of info71
  have hnews : ∀ j u, news[j]? = some u → w.cell? ((⟨vb, 0, none⟩ : Addr).add j) = some u := fun j u hj => by
    rw [Addr.add_lit, Nat.zero_add]
    exact cell_in hv hj
  have HN := Aside0.mk hnews
  have HO := Aside0.mk ho
  have hx : insF 4 n xs news = xs ++ news := by
    unfold insF
    rw [List.take_of_length_le (by rw [ho.1]; exact Nat.le_refl _), List.drop_of_length_le (by rw [ho.1]; exact Nat.le_refl _), List.append_nil]
  have PP : Aside0 (∀ v' w', w'.ownsRow n0 71 4 v' (n + 1) (xs ++ news) → w.grownBy w' v.ownBlock → InsPost 71 4 n0 n n v xs news w (.returned v') w') := ⟨fun v' w' a b => ⟨v', rfl, by rw [hx]; exact a, b⟩⟩
  obtain ⟨A, c, rfl, hc⟩ := (Reads.of_own ho).form
  have hnc : (n : Int) ≤ (c : Int) := by omega
  clear ho hv hnews hx
  by_cases hcn : c = n
  · subst hcn
    go_enter Tryz.func31, Tryz.ntmps31
    go_upto_region 7 with fail
    go_wp2_with (at_builtin; refine Aside0.out ?_)
    refine ⟨?_⟩
    refine wpList_append_own _ rfl (.tmp 23) (.tmp 24) 26 rfl n0 71 i0 _ 4 32 Tryz.underlying26 j1 j2 j3 j4 rfl (by decide) _ c xs rfl HO.out ⟨vb, 0, none⟩ 1 1 news rfl (by omega) HN.out h1 (by simp only [maxLen]; omega) (by omega) hn0 ?_
    intro v' w' h2 h3 _
    go_wp2_with fail
    go_ret
    exact PP.out v' w' h2 h3
  · go_enter Tryz.func31, Tryz.ntmps31
    go_upto_region 7 with fail
    go_wp2_with (at_builtin; refine Aside0.out ?_)
    refine ⟨?_⟩
    refine wpList_append_own _ rfl (.tmp 23) (.tmp 24) 26 rfl n0 71 i0 _ 4 32 Tryz.underlying26 j1 j2 j3 j4 rfl (by decide) _ n xs rfl HO.out ⟨vb, 0, none⟩ 1 1 news rfl (by omega) HN.out h1 (by simp only [maxLen]; omega) (by omega) hn0 ?_
    intro v' w' h2 h3 _
    go_wp2_with fail
    go_ret
    exact PP.out v' w' h2 h3
set_option maxHeartbeats 4000000 in
set_option maxRecDepth 100000 in
theorem insS_room (g cap n i : Nat) (xs news : List Value) (vb n0 : Nat) (w : World) (ho : w.ownsRow n0 71 4 (.slice (some ⟨g, 0, none⟩) n cap) n xs) (hv : w.heap[vb]? = some (.cells news.toArray 71 (0, 0))) (hl : news.length = 4) (h1 : ∀ u ∈ news, u.oneCell' = true) (h1x : ∀ u ∈ xs, u.oneCell' = true) (hm : n ≤ 1000000) (hi : i < n) (hroom : n + 1 ≤ cap) (hne : vb ≠ g) :
    Calls Tryz.prog 31 #[.slice (some ⟨g, 0, none⟩) n cap, .int .i64 (i : Int), .slice (some ⟨vb, 0, none⟩) 1 1] w fun e w' => InsPost 71 4 n0 n i (.slice (some ⟨g, 0, none⟩) n cap) xs news w e w' := by
  obtain ⟨cur, hg, hgb, hcap, hcs, htk⟩ : ∃ cur, w.heap[g]? = some (.cells cur 71 (0, 0)) ∧ n0 ≤ g ∧ cap ≤ maxLen ∧ cur.size = cap * 4 ∧ cur.toList.take (n * 4) = xs := by
    rcases ho.2 with ⟨h, _⟩ | ⟨g', cap', cur, h, a, b, _, c, d, e⟩
    · injection h with h; cases h
    · injection h with h _ h3
      injection h with h
      injection h with h
      subst h
      subst h3
      exact ⟨cur, b, a, c, d, e⟩
  have hxl : xs.length = n * 4 := ho.1
  have hcell : ∀ j, j < cap * 4 → ∃ u, w.cell? ⟨g, j, none⟩ = some u := fun j hj => by
    have hj2 : j < cur.size := by omega
    refine ⟨cur[j], ?_⟩
    simp only [World.cell?, hg]
    exact Array.getElem?_eq_getElem hj2
  have hxc : ∀ j u, xs[j]? = some u → w.cell? ⟨g, j, none⟩ = some u := fun j u hj => by
    have := ho.cells (g := g) rfl j u hj
    rwa [Addr.add_lit, Nat.zero_add] at this
  have hfz : ∀ j, w.frozen? ⟨g, j, none⟩ = false := fun j => by simp [World.frozen?, hg]
  have hdl : (xs.drop (i * 4)).length = (n - i) * 4 := by rw [List.length_drop, hxl, Nat.sub_mul]
  have hcp : 0 < cap := by omega
  have hov : ∀ (W : World) lb cb, W.heap[g]? = some (.cells cur 71 (0, 0)) → W.heap[vb]? = some (.cells news.toArray 71 (0, 0)) → (callFunc 50 #[.slice (some ⟨vb, 0, none⟩) 1 1, .slice (some ⟨g, (i + 1) * 4, none⟩) lb cb]).run Tryz.prog W = .ok (.value (.bool false)) W := fun W lb cb hg2 hv2 => by
    rw [run_callFunc_extern Tryz.func50 (by kernel_rfl) (by kernel_rfl) (by kernel_rfl) (e := Extern.SlicesOverlaps.overlaps #[26, 26] #[4]) (by kernel_rfl),
      Lib.run_overlaps_apart W 26 4 71 Tryz.underlying26 4 Tryz.sizeOf71 ⟨vb, 0, none⟩ ⟨g, (i + 1) * 4, none⟩ 1 1 lb cb hne 71 71 news.toArray.size cur.size (by simp [World.shape?, hv2]) (by simp [World.shape?, hg2]) (by rw [hcs]; omega) (by simp [World.frozen?, hv2]) (by simp [World.frozen?, hv2])]
    rfl
  have hov0 := hov w
  have hsz : (Tryz.prog.info? 71).map (·.size) = some 4 := by kernel_rfl
  have hii : ¬ ((i : Int) = (n : Int)) := by omega
  have hnci : ¬ (cap = i) := by omega
  have hnci1 : ¬ (cap = i + 1) := by omega
  have hi1n : (i : Int) + 1 ≤ (n : Int) + 1 := by omega
  have hi1c : (i : Int) + 1 ≤ (cap : Int) := by omega
  have hn1c : (n : Int) + 1 ≤ (cap : Int) := by omega
  have htn : ((i : Int) + 1).toNat = i + 1 := by omega
  have htn2 : ((n : Int) + 1).toNat = n + 1 := by omega
  have hin : (i : Int) ≤ (n : Int) := by omega
  have hic : (i : Int) ≤ (cap : Int) := by omega
  have hw1 : IntKind.i64.wrap ((n : Int) + 1) = (n : Int) + 1 := by simp [IntKind.wrap, IntKind.bits, IntKind.signed]; omega
  have hw2 : IntKind.i64.wrap ((i : Int) + 1) = (i : Int) + 1 := by simp [IntKind.wrap, IntKind.bits, IntKind.signed]; omega
  have hng : ¬ ((n : Int) + 1 > (cap : Int)) := by omega
  go_enter Tryz.func31, Tryz.ntmps31
  have hov1 : ∀ lb cb, (callFunc 50 #[.slice (some ⟨vb, 0, none⟩) 1 1, .slice (some ⟨g, (i + 1) * 4, none⟩) lb cb]).run Tryz.prog w = .ok (.value (.bool false)) w := fun lb cb => hov0 lb cb hg hv
  have HH := Aside0.mk (And.intro hg (And.intro hgb (And.intro hcap (And.intro hcs (And.intro htk hxl)))))
  have HCELL := Aside0.mk hcell
  have HXC := Aside0.mk hxc
  have HV := Aside0.mk hv
  have HL := Aside0.mk hl
  have HH1 := Aside0.mk (And.intro h1 h1x)
  have HDL := Aside0.mk hdl
  have HFZ := Aside0.mk hfz
  clear hg hgb hcap hcs htk hxl hcell hxc hv hl h1 h1x hdl hov hov0 ho hfz
  go_upto_region 15 with (simp only [hov1])
  have hb1 : (0 : Int) ≤ (i : Int) + 1 := by omega
  have hb3 : (i : Int) ≤ (n : Int) + 1 := by omega
  have hcpA : ∀ W : World, W.heap = w.heap → ∀ ty dc sc, (Builtin.copy_ #[26, 26] ty #[.slice (some ⟨g, (i + 1) * 4, none⟩) (n - i) dc, .slice (some ⟨g, i * 4, none⟩) (n + 1 - i) sc]).run Tryz.prog W = .ok (goInt ((n - i : Nat) : Int)) (W.setCells g ((i + 1) * 4) (xs.drop (i * 4))) := fun W hW ty dc sc =>
    run_copyK W 26 ty 71 4 g ((i + 1) * 4) (n - i) dc ⟨g, i * 4, none⟩ (n + 1 - i) sc (n - i) (xs.drop (i * 4)) Tryz.underlying26 hsz (by simp only [Nat.min_def]; split <;> omega) HDL.out
      (fun j v hj => by
        rw [Addr.add_lit]
        rw [List.getElem?_drop] at hj
        rw [World.cell?, hW]
        exact HXC.out _ v hj)
      (fun j hj => by
        rw [HDL.out] at hj
        obtain ⟨u, hu⟩ := HCELL.out ((i + 1) * 4 + j) (by omega)
        rw [World.cell?] at hu
        rw [World.cell?, hW, hu]; rfl)
      (fun j _ => by
        have := HFZ.out ((i + 1) * 4 + j)
        rw [World.frozen?] at this
        rw [World.frozen?, hW, this]) (fun v hv => HH1.out.2 v (List.mem_of_mem_drop hv))
  obtain ⟨cur1, g1, g2, g3⟩ : ∃ cur1, (w.drew.setCells g ((i + 1) * 4) (xs.drop (i * 4))).heap[g]? = some (.cells cur1 71 (0, 0)) ∧ cur1.size = cap * 4 ∧ cur1.toList.take ((n + 1) * 4) = xs.take (i * 4) ++ cur.toList.extract (i * 4) ((i + 1) * 4) ++ xs.drop (i * 4) := by
    obtain ⟨hg, hgb, hcap, hcs, htk, hxl⟩ := HH.out
    obtain ⟨c1, q1, q2, q3⟩ := setCells_row (xs.drop (i * 4)) ((i + 1) * 4) w.drew cur hg (by rw [HDL.out, hcs]; omega)
    refine ⟨c1, q1, by rw [q2, hcs], ?_⟩
    have hcl : cur.toList.length = cap * 4 := by rw [Array.length_toList, hcs]
    have e1 : xs.take (i * 4) = cur.toList.take (i * 4) := by rw [← htk, List.take_take, Nat.min_eq_left (by omega)]
    have e2 : cur.toList.take ((i + 1) * 4) = cur.toList.take (i * 4) ++ cur.toList.extract (i * 4) ((i + 1) * 4) := by
      rw [List.extract_eq_take_drop, ← List.take_add]
      congr 1
      omega
    rw [q3, e1, ← e2, List.take_append_of_le_length (by rw [List.length_append, List.length_take, HDL.out, hcl]; omega), List.take_of_length_le (by rw [List.length_append, List.length_take, HDL.out, hcl]; omega)]
  obtain ⟨W1, hW1⟩ : ∃ W1, W1 = w.drew.setCells g ((i + 1) * 4) (xs.drop (i * 4)) := ⟨_, rfl⟩
  have s1 := setCells_same g (xs.drop (i * 4)) ((i + 1) * 4) w.drew
  rw [← hW1] at g1 s1
  have hfar1 : ∀ k, k ≠ g → W1.heap[k]? = w.heap[k]? := fun k hk => by rw [hW1]; exact setCells_far (xs.drop (i * 4)) ((i + 1) * 4) k hk
  have hcpB : ∀ ty dc, (Builtin.copy_ #[26, 26] ty #[.slice (some ⟨g, i * 4, none⟩) (n + 1 - i) dc, .slice (some ⟨vb, 0, none⟩) 1 1]).run Tryz.prog W1 = .ok (goInt ((1 : Nat) : Int)) (W1.setCells g (i * 4) news) := fun ty dc =>
    run_copyK W1 26 ty 71 4 g (i * 4) (n + 1 - i) dc ⟨vb, 0, none⟩ 1 1 1 news Tryz.underlying26 hsz (by simp only [Nat.min_def]; split <;> omega) (by rw [HL.out])
      (fun j v hj => by
        rw [Addr.add_lit, Nat.zero_add]
        exact cell_in (by rw [hfar1 vb hne]; exact HV.out) hj)
      (fun j hj => by
        rw [HL.out] at hj
        simp only [World.cell?, g1]
        have : i * 4 + j < cur1.size := by omega
        rw [Array.getElem?_eq_getElem this]; rfl)
      (fun j _ => by simp [World.frozen?, g1]) HH1.out.1
  obtain ⟨cur2, g4, g5, g6⟩ := setCells_row news (i * 4) W1 cur1 g1 (by rw [HL.out, g2]; omega)
  have s2 := setCells_same g news (i * 4) W1
  have hfar2 : ∀ k, k ≠ g → (W1.setCells g (i * 4) news).heap[k]? = w.heap[k]? := fun k hk => by rw [setCells_far news (i * 4) k hk, hfar1 k hk]
  have PP : Aside0 (InsPost 71 4 n0 n i (.slice (some ⟨g, 0, none⟩) n cap) xs news w (.returned (.slice (some ⟨g, 0, none⟩) (n + 1) cap)) (W1.setCells g (i * 4) news)) := ⟨by
    obtain ⟨hg, hgb, hcap, hcs, htk, hxl⟩ := HH.out
    have hcl : cur.toList.length = cap * 4 := by rw [Array.length_toList, hcs]
    have hc1l : cur1.toList.length = cap * 4 := by rw [Array.length_toList, g2]
    have hnl := HL.out
    have hel : (cur.toList.extract (i * 4) ((i + 1) * 4)).length = 4 := by rw [List.extract_eq_take_drop, List.length_take, List.length_drop, hcl]; omega
    refine ⟨_, rfl, ⟨?_, .inr ⟨g, cap, cur2, rfl, hgb, g4, hroom, hcap, by rw [g5, g2], ?_⟩⟩, ⟨?_, ?_, ?_, ?_, ?_⟩⟩
    · simp only [insF, List.length_append, List.length_take, List.length_drop, hxl, hnl]; omega
    · have hA : cur1.toList.take (i * 4) = xs.take (i * 4) := by
        have : cur1.toList.take (i * 4) = (cur1.toList.take ((n + 1) * 4)).take (i * 4) := by rw [List.take_take, Nat.min_eq_left (by omega)]
        rw [this, g3, List.append_assoc, List.take_append_of_le_length (by rw [List.length_take, hxl]; omega), List.take_take, Nat.min_self]
      have hB : (cur1.toList.drop (i * 4 + 4)).take ((n - i) * 4) = xs.drop (i * 4) := by
        have : (cur1.toList.drop (i * 4 + 4)).take ((n - i) * 4) = (cur1.toList.take ((n + 1) * 4)).drop (i * 4 + 4) := by rw [List.drop_take]; congr 1; omega
        rw [this, g3, List.drop_append, List.drop_of_length_le (by rw [List.length_append, List.length_take, hel, hxl]; omega), List.nil_append, List.length_append, List.length_take, hel, hxl, Nat.min_eq_left (by omega), Nat.sub_self, List.drop_zero]
      rw [g6, hA, hnl, insF, List.take_append, List.take_of_length_le (by rw [List.length_append, List.length_take, hnl, hxl]; omega)]
      congr 1
      rw [← hB, List.length_append, List.length_take, hnl, hxl]
      congr 1
      omega
    · rw [s2.1, s1.1]; rfl
    · rw [s2.2.1, s1.2.1]; rfl
    · rw [s2.2.2.1, s1.2.2.1]; rfl
    · rw [s2.2.2.2, s1.2.2.2]; exact Nat.le_refl _
    · intro k hk hne2
      exact hfar2 k (fun hh => hne2 (by rw [hh]; rfl))⟩
  clear hfar1 hfar2 s1 s2 g1 g2 g3 g4 g5 g6
  subst hW1
  refine wp_region_held_drew (S := (fun _ => True)) (by kernel_rfl) (by trivial) (fun hHeld => ?_)
  refine wpAnyH_take (i := 0) (oi := _) (v := ?_) rfl (by kernel_rfl) (by kernel_rfl) (by kernel_rfl) (fun _ _ _ h => h) (Or.inl ⟨by rfl, ?_⟩) (by assumption) ?_
  rotate_left
  · (intro w hSw; (try dsimp only at hSw); go_simp; (try with_reducible rfl))
  (try simp only [uA, uB, uC, uD, uE, uF, uG, uH])
  refine wpAnyH_take (i := 1) (oi := _) (v := ?_) rfl (by kernel_rfl) (by kernel_rfl) (by kernel_rfl) (fun _ _ _ h => h) (Or.inl ⟨by rfl, ?_⟩) (by assumption) ?_
  rotate_left
  · (intro w hSw; (try dsimp only at hSw); go_simp; (try with_reducible rfl))
  (try simp only [uA, uB, uC, uD, uE, uF, uG, uH])
  refine wpAnyH_take (i := 2) (oi := _) (v := ?_) rfl (by kernel_rfl) (by kernel_rfl) (by kernel_rfl) (fun _ _ _ h => h) (Or.inl ⟨by rfl, ?_⟩) (by assumption) ?_
  rotate_left
  · (intro w hSw; (try dsimp only at hSw); go_simp; (try with_reducible rfl))
  (try simp only [uA, uB, uC, uD, uE, uF, uG, uH])
  refine wpAnyH_take (i := 3) (oi := _) (v := ?_) rfl (by kernel_rfl) (by kernel_rfl) (by kernel_rfl) (fun _ _ _ h => h) (Or.inl ⟨by rfl, ?_⟩) (by assumption) ?_
  rotate_left
  · (intro w hSw; (try dsimp only at hSw); go_simp; (try with_reducible rfl))
  (try simp only [uA, uB, uC, uD, uE, uF, uG, uH])
  refine wpAnyH_take (i := 4) (oi := _) (v := ?_) rfl (by kernel_rfl) (by kernel_rfl) (by kernel_rfl) (fun _ _ _ h => h) (Or.inl ⟨by rfl, ?_⟩) (by assumption) ?_
  rotate_left
  · (intro w hSw; (try dsimp only at hSw); go_simp; (try with_reducible rfl))
  (try simp only [uA, uB, uC, uD, uE, uF, uG, uH])
  refine wpAnyH_take (i := 5) (oi := _) (v := ?_) rfl (by kernel_rfl) (by kernel_rfl) (by kernel_rfl) (fun _ _ _ h => h) (Or.inl ⟨by rfl, ?_⟩) (by assumption) ?_
  rotate_left
  · (intro w hSw; (try dsimp only at hSw); go_simp; (try with_reducible rfl))
  (try simp only [uA, uB, uC, uD, uE, uF, uG, uH])
  refine wpAnyH_take (i := 6) (oi := _) (v := ?_) rfl (by kernel_rfl) (by kernel_rfl) (by kernel_rfl) (fun _ _ _ h => h) (Or.inl ⟨by rfl, ?_⟩) (by assumption) ?_
  rotate_left
  · (intro w hSw; (try dsimp only at hSw); go_simp; (try with_reducible rfl))
  (try simp only [uA, uB, uC, uD, uE, uF, uG, uH])
  refine wpAnyH_take (i := 7) (oi := _) (v := ?_) rfl (by kernel_rfl) (by kernel_rfl) (by kernel_rfl) (fun _ _ _ h => h) (Or.inl ⟨by rfl, ?_⟩) (by assumption) ?_
  rotate_left
  · (intro w hSw; (try dsimp only at hSw); go_simp; (try with_reducible rfl))
  (try simp only [uA, uB, uC, uD, uE, uF, uG, uH])
  refine wpAnyH_ready (rs := [8]) (by kernel_rfl) (by decide) (AllReadyH.cons rfl (fun K' hK => ?_) AllReadyH.nil)
  rw [if_pos (by rfl)]
  refine wp_copyK _ _ _ 26 26 rfl _ _ rfl rfl (hcpA w.drew rfl 3 _ _) ?_
  refine hK.out _ _ (by trivial) (fun hHeld => ?_)
  clear hK
  (try simp only [uA, uB, uC, uD, uE, uF, uG, uH])
  refine wpAnyH_done (by kernel_rfl) ?_ _
  go_wp2_with (at_builtin; refine wpList_copy_runI _ rfl _ _ 26 26 rfl _ _ rfl rfl (hcpB _ _) ?_)
  go_ret
  exact PP.out
set_option maxHeartbeats 4000000 in
set_option maxRecDepth 100000 in
theorem insS_grow (g cap n i : Nat) (xs news : List Value) (vb n0 : Nat) (w : World) (ho : w.ownsRow n0 71 4 (.slice (some ⟨g, 0, none⟩) n cap) n xs) (hv : w.heap[vb]? = some (.cells news.toArray 71 (0, 0))) (hl : news.length = 4) (h1 : ∀ u ∈ news, u.oneCell' = true) (h1x : ∀ u ∈ xs, u.oneCell' = true) (hm : n ≤ 1000000) (hi : i < n) (hroom : cap < n + 1) (hn0 : n0 ≤ w.heap.size) :
    Calls Tryz.prog 31 #[.slice (some ⟨g, 0, none⟩) n cap, .int .i64 (i : Int), .slice (some ⟨vb, 0, none⟩) 1 1] w fun e w' => InsPost 71 4 n0 n i (.slice (some ⟨g, 0, none⟩) n cap) xs news w e w' := by
  obtain ⟨cur, hg, hcn⟩ : ∃ cur, w.heap[g]? = some (.cells cur 71 (0, 0)) ∧ n ≤ cap := by
    rcases ho.2 with ⟨h, _⟩ | ⟨g', cap', cur, h, a, b, c, d, e, f⟩
    · injection h with h; cases h
    · injection h with h _ h3
      injection h with h
      injection h with h
      subst h
      subst h3
      exact ⟨cur, b, c⟩
  obtain ⟨i0, j1, j2, j3, j4⟩ := info_of info71
  have hgl : g < w.heap.size := (Array.getElem?_eq_some_iff.1 hg).1
  have hvl : vb < w.heap.size := (Array.getElem?_eq_some_iff.1 hv).1
  have hxl : xs.length = n * 4 := ho.1
  have hxc : ∀ j u, xs[j]? = some u → w.cell? ⟨g, j, none⟩ = some u := fun j u hj => by
    have := ho.cells (g := g) rfl j u hj
    rwa [Addr.add_lit, Nat.zero_add] at this
  have hdl : (xs.drop (i * 4)).length = (n - i) * 4 := by rw [List.length_drop, hxl, Nat.sub_mul]
  have htl : (xs.take (i * 4)).length = i * 4 := by rw [List.length_take, hxl]; omega
  have hsz : (Tryz.prog.info? 71).map (·.size) = some 4 := by kernel_rfl
  have hold : (Builtin.firstCells i0.size i (.slice (some ⟨g, 0, none⟩) i cap)).run Tryz.prog w.drew = .ok (xs.take (i * 4)).toArray w.drew := by
    rw [j3]
    exact run_firstCells_some w.drew 4 i ⟨g, 0, none⟩ i cap (xs.take (i * 4)) htl (fun j v hj => by
      rw [Addr.add_lit, Nat.zero_add]
      rw [List.getElem?_take] at hj
      split at hj
      · exact hxc j v hj
      · cases hj)
  have hkk : (n : Int) + 1 - (i : Int) = ((n + 1 - i : Nat) : Int) := by omega
  have hik : i + (n + 1 - i) = n + 1 := by omega
  obtain ⟨G, hG⟩ : ∃ G, G = grownCap w (n + 1) cap 71 := ⟨_, rfl⟩
  obtain ⟨ROW, hROW⟩ : ∃ ROW : Array Value, ROW = (xs.take (i * 4)).toArray ++ Builtin.zeroCells (Value.agg #[.int .i64 0, .int .i64 0, .int .i64 0, .int .i64 0]).cells (n + 1 - i) ++ Builtin.zeroCells (Value.agg #[.int .i64 0, .int .i64 0, .int .i64 0, .int .i64 0]).cells (G - (n + 1)) := ⟨_, rfl⟩
  have hrz : ∀ ty, (Builtin.append_ #[26, 3] ty #[.slice (some ⟨g, 0, none⟩) i cap, .int .i64 ((n : Int) + 1 - (i : Int))]).run Tryz.prog w =
      .ok (.slice (some ⟨w.heap.size, 0, none⟩) (n + 1) G) (w.drew.alloc (.cells ROW 71)) := fun ty => by
    have h := Lib.run_append_grow_zeros w 26 3 ty 71 i0 _ .i64 .i64 Tryz.underlying26 Tryz.underlying3 j1 j2 (some ⟨g, 0, none⟩) i cap (xs.take (i * 4)) hold (n + 1 - i) (by omega) (by omega) (by omega) (by omega) (by rw [j4]; omega) (by rw [j4, hik]; exact growslice_fits (by omega) (by omega))
    rw [hik] at h
    rw [hkk, h, hROW, hG]
  have hGn : n + 1 ≤ G := by rw [hG]; exact grownCap_ge w _ _ _
  have hGm : G ≤ maxLen := by rw [hG]; exact grownCap_le_maxLen w (n + 1) cap 71 (by simp only [maxLen]; omega)
  have hRs : ROW.size = G * 4 := by
    rw [hROW, Array.size_append, Array.size_append, size_zeroCells, size_zeroCells, List.size_toArray, htl, show ((Value.agg #[.int .i64 0, .int .i64 0, .int .i64 0, .int .i64 0]).cells).size = 4 from rfl]
    omega
  have hRt : ROW.toList.take (i * 4) = xs.take (i * 4) := by
    rw [hROW, Array.toList_append, Array.toList_append, List.append_assoc, List.toList_toArray, List.take_append_of_le_length (by rw [htl]; exact Nat.le_refl _), List.take_take, Nat.min_self]
  clear hROW hold hkk hik hG
  obtain ⟨W1, hW1⟩ : ∃ W1, W1 = (w.alloc (.cells ROW 71)).drew := ⟨_, rfl⟩
  have hW1s : W1.heap.size = w.heap.size + 1 := by rw [hW1]; exact Array.size_push _
  have hW1g : W1.heap[w.heap.size]? = some (.cells ROW 71 (0, 0)) := by
    rw [hW1]
    exact Array.getElem?_push_size
  have hfar0 : ∀ k, k < w.heap.size → W1.heap[k]? = w.heap[k]? := fun k hk => by rw [hW1]; exact Below.heap_alloc (w := w) _ k hk
  have hos : W1.os = w.os ∧ W1.tape = w.tape ∧ W1.output = w.output := by rw [hW1]; exact ⟨rfl, rfl, rfl⟩
  have hcpA : ∀ ty dc, (Builtin.copy_ #[26, 26] ty #[.slice (some ⟨w.heap.size, i * 4, none⟩) (n + 1 - i) dc, .slice (some ⟨vb, 0, none⟩) 1 1]).run Tryz.prog W1 = .ok (goInt ((1 : Nat) : Int)) (W1.setCells w.heap.size (i * 4) news) := fun ty dc =>
    run_copyK W1 26 ty 71 4 w.heap.size (i * 4) (n + 1 - i) dc ⟨vb, 0, none⟩ 1 1 1 news Tryz.underlying26 hsz (by simp only [Nat.min_def]; split <;> omega) (by rw [hl])
      (fun j v hj => by
        rw [Addr.add_lit, Nat.zero_add]
        exact cell_in (by rw [hfar0 vb hvl]; exact hv) hj)
      (fun j hj => by
        rw [hl] at hj
        simp only [World.cell?, hW1g]
        have : i * 4 + j < ROW.size := by rw [hRs]; omega
        rw [Array.getElem?_eq_getElem this]; rfl)
      (fun j _ => by simp [World.frozen?, hW1g]) h1
  obtain ⟨cur2, g4, g5, g6⟩ := setCells_row news (i * 4) W1 ROW hW1g (by rw [hl, hRs]; omega)
  have s2 := setCells_same w.heap.size news (i * 4) W1
  have hfar2 : ∀ k, k < w.heap.size → (W1.setCells w.heap.size (i * 4) news).heap[k]? = w.heap[k]? := fun k hk => by rw [setCells_far news (i * 4) k (by omega), hfar0 k hk]
  obtain ⟨W2, hW2⟩ : ∃ W2, W2 = W1.setCells w.heap.size (i * 4) news := ⟨_, rfl⟩
  rw [← hW2] at g4 s2 hfar2
  have hcpB : ∀ W : World, W.heap = W2.heap → ∀ ty dc sc, (Builtin.copy_ #[26, 26] ty #[.slice (some ⟨w.heap.size, (i + 1) * 4, none⟩) (n - i) dc, .slice (some ⟨g, i * 4, none⟩) (n - i) sc]).run Tryz.prog W = .ok (goInt ((n - i : Nat) : Int)) (W.setCells w.heap.size ((i + 1) * 4) (xs.drop (i * 4))) := fun W hW ty dc sc =>
    run_copyK W 26 ty 71 4 w.heap.size ((i + 1) * 4) (n - i) dc ⟨g, i * 4, none⟩ (n - i) sc (n - i) (xs.drop (i * 4)) Tryz.underlying26 hsz (by simp only [Nat.min_def]; split <;> omega) hdl
      (fun j v hj => by
        rw [Addr.add_lit]
        rw [List.getElem?_drop] at hj
        have := hxc _ v hj
        rw [World.cell?] at this ⊢
        rw [hW]
        rw [hfar2 g hgl]
        exact this)
      (fun j hj => by
        rw [hdl] at hj
        simp only [World.cell?, hW, g4]
        have : (i + 1) * 4 + j < cur2.size := by rw [g5, hRs]; omega
        rw [Array.getElem?_eq_getElem this]; rfl)
      (fun j _ => by simp [World.frozen?, hW, g4]) (fun v hv => h1x v (List.mem_of_mem_drop hv))
  have PP : Aside0 (∀ W : World, W.heap = W2.heap → W.os = W2.os → W.tape = W2.tape → W.output = W2.output → InsPost 71 4 n0 n i (.slice (some ⟨g, 0, none⟩) n cap) xs news w (.returned (.slice (some ⟨w.heap.size, 0, none⟩) (n + 1) G)) (W.setCells w.heap.size ((i + 1) * 4) (xs.drop (i * 4)))) := ⟨fun W hW hWo hWt hWp => by
    obtain ⟨cur3, g7, g8, g9⟩ := setCells_row (xs.drop (i * 4)) ((i + 1) * 4) W cur2 (by rw [hW]; exact g4) (by rw [hdl, g5, hRs]; omega)
    have s3 := setCells_same w.heap.size (xs.drop (i * 4)) ((i + 1) * 4) W
    refine ⟨_, rfl, ⟨?_, .inr ⟨w.heap.size, G, cur3, rfl, hn0, g7, hGn, hGm, by rw [g8, g5, hRs], ?_⟩⟩, ⟨?_, ?_, ?_, ?_, ?_⟩⟩
    · simp only [insF, List.length_append, htl, hdl, hl]; omega
    · have hA : cur2.toList.take ((i + 1) * 4) = xs.take (i * 4) ++ news := by
        rw [g6, hRt, List.take_append_of_le_length (by rw [List.length_append, htl, hl]; omega), List.take_of_length_le (by rw [List.length_append, htl, hl]; omega)]
      rw [g9, hA, List.take_append_of_le_length (by rw [List.length_append, List.length_append, htl, hl, hdl]; omega), List.take_of_length_le (by rw [List.length_append, List.length_append, htl, hl, hdl]; omega), insF]
    · rw [s3.1, hWo, s2.1, hos.1]
    · rw [s3.2.1, hWt, s2.2.1, hos.2.1]
    · rw [s3.2.2.1, hWp, s2.2.2.1, hos.2.2]
    · rw [s3.2.2.2, hW, s2.2.2.2, hW1s]; omega
    · intro k hk _
      rw [setCells_far _ _ k (by omega), hW]
      exact hfar2 k hk⟩
  clear hfar0 hfar2 s2 g4 g5 g6 hos hW1s hW1g hRt hRs
  subst hW2
  subst hW1
  have hii : ¬ ((i : Int) = (n : Int)) := by omega
  have hnci : ¬ (cap = i) := by omega
  have hGi : ¬ (G = i) := by omega
  have hGi1 : ¬ (G = i + 1) := by omega
  have hi1n : (i : Int) + 1 ≤ (n : Int) + 1 := by omega
  have hb1 : (0 : Int) ≤ (i : Int) + 1 := by omega
  have hb3 : (i : Int) ≤ (n : Int) + 1 := by omega
  have hi1c : (i : Int) + 1 ≤ (G : Int) := by omega
  have hic2 : (i : Int) ≤ (G : Int) := by omega
  have htn : ((i : Int) + 1).toNat = i + 1 := by omega
  have htn2 : ((n : Int) + 1).toNat = n + 1 := by omega
  have hin : (i : Int) ≤ (n : Int) := by omega
  have hic : (i : Int) ≤ (cap : Int) := by omega
  have hw1 : IntKind.i64.wrap ((n : Int) + 1) = (n : Int) + 1 := by simp [IntKind.wrap, IntKind.bits, IntKind.signed]; omega
  have hw2 : IntKind.i64.wrap ((i : Int) + 1) = (i : Int) + 1 := by simp [IntKind.wrap, IntKind.bits, IntKind.signed]; omega
  have hw3 : IntKind.i64.wrap ((n : Int) + 1 - (i : Int)) = (n : Int) + 1 - (i : Int) := by simp [IntKind.wrap, IntKind.bits, IntKind.signed]; omega
  have hng : (n : Int) + 1 > (cap : Int) := by omega
  have HRZ := Aside0.mk hrz
  have HA := Aside0.mk hcpA
  have HB := Aside0.mk hcpB
  clear hrz hcpA hcpB hxc hxl hv hg ho htl hdl h1 h1x
  generalize w.heap.size = B at *
  go_enter Tryz.func31, Tryz.ntmps31
  go_upto_region 10 with (at_builtin; refine Lib.wpList_append_run _ rfl _ _ _ _ rfl _ _ rfl rfl _ _ (HRZ.out _) ?_)
  have hA2 := HA.out
  go_wp2_with fail
  clear hA2
  refine wp_region_held_drew (S := (fun _ => True)) (by kernel_rfl) (by trivial) (fun hHeld => ?_)
  refine wpAnyH_take (i := 0) (oi := _) (v := ?_) rfl (by kernel_rfl) (by kernel_rfl) (by kernel_rfl) (fun _ _ _ h => h) (Or.inl ⟨by rfl, ?_⟩) (by assumption) ?_
  rotate_left
  · (intro w hSw; (try dsimp only at hSw); go_simp; (try with_reducible rfl))
  (try simp only [uA, uB, uC, uD, uE, uF, uG, uH])
  refine wpAnyH_take (i := 1) (oi := _) (v := ?_) rfl (by kernel_rfl) (by kernel_rfl) (by kernel_rfl) (fun _ _ _ h => h) (Or.inl ⟨by rfl, ?_⟩) (by assumption) ?_
  rotate_left
  · (intro w hSw; (try dsimp only at hSw); go_simp; (try with_reducible rfl))
  (try simp only [uA, uB, uC, uD, uE, uF, uG, uH])
  refine wpAnyH_take (i := 2) (oi := _) (v := ?_) rfl (by kernel_rfl) (by kernel_rfl) (by kernel_rfl) (fun _ _ _ h => h) (Or.inl ⟨by rfl, ?_⟩) (by assumption) ?_
  rotate_left
  · (intro w hSw; (try dsimp only at hSw); go_simp; (try with_reducible rfl))
  (try simp only [uA, uB, uC, uD, uE, uF, uG, uH])
  refine wpAnyH_take (i := 3) (oi := _) (v := ?_) rfl (by kernel_rfl) (by kernel_rfl) (by kernel_rfl) (fun _ _ _ h => h) (Or.inl ⟨by rfl, ?_⟩) (by assumption) ?_
  rotate_left
  · (intro w hSw; (try dsimp only at hSw); go_simp; (try with_reducible rfl))
  (try simp only [uA, uB, uC, uD, uE, uF, uG, uH])
  refine wpAnyH_take (i := 4) (oi := _) (v := ?_) rfl (by kernel_rfl) (by kernel_rfl) (by kernel_rfl) (fun _ _ _ h => h) (Or.inl ⟨by rfl, ?_⟩) (by assumption) ?_
  rotate_left
  · (intro w hSw; (try dsimp only at hSw); go_simp; (try with_reducible rfl))
  (try simp only [uA, uB, uC, uD, uE, uF, uG, uH])
  refine wpAnyH_take (i := 5) (oi := _) (v := ?_) rfl (by kernel_rfl) (by kernel_rfl) (by kernel_rfl) (fun _ _ _ h => h) (Or.inl ⟨by rfl, ?_⟩) (by assumption) ?_
  rotate_left
  · (intro w hSw; (try dsimp only at hSw); go_simp; (try with_reducible rfl))
  (try simp only [uA, uB, uC, uD, uE, uF, uG, uH])
  refine wpAnyH_take (i := 6) (oi := _) (v := ?_) rfl (by kernel_rfl) (by kernel_rfl) (by kernel_rfl) (fun _ _ _ h => h) (Or.inl ⟨by rfl, ?_⟩) (by assumption) ?_
  rotate_left
  · (intro w hSw; (try dsimp only at hSw); go_simp; (try with_reducible rfl))
  (try simp only [uA, uB, uC, uD, uE, uF, uG, uH])
  refine wpAnyH_take (i := 7) (oi := _) (v := ?_) rfl (by kernel_rfl) (by kernel_rfl) (by kernel_rfl) (fun _ _ _ h => h) (Or.inl ⟨by rfl, ?_⟩) (by assumption) ?_
  rotate_left
  · (intro w hSw; (try dsimp only at hSw); go_simp; (try with_reducible rfl))
  (try simp only [uA, uB, uC, uD, uE, uF, uG, uH])
  refine wpAnyH_ready (rs := [8]) (by kernel_rfl) (by decide) (AllReadyH.cons rfl (fun K' hK => ?_) AllReadyH.nil)
  rw [if_pos (by rfl)]
  refine wp_copyK _ _ _ 26 26 rfl _ _ rfl rfl (HB.out ((w.alloc (.cells ROW 71)).drew.setCells B (i * 4) news).drew rfl 3 _ _) ?_
  refine hK.out _ _ (by trivial) (fun hHeld => ?_)
  clear hK
  (try simp only [uA, uB, uC, uD, uE, uF, uG, uH])
  refine wpAnyH_done (by kernel_rfl) ?_ _
  go_wp2_with fail
  go_ret
  exact PP.out ((w.alloc (.cells ROW 71)).drew.setCells B (i * 4) news).drew rfl rfl rfl rfl
theorem insS_c (v : Value) (n i : Nat) (xs news : List Value) (vb n0 : Nat) (w : World) (ho : w.ownsRow n0 71 4 v n xs) (hv : w.heap[vb]? = some (.cells news.toArray 71 (0, 0))) (hvb : some vb ≠ v.ownBlock) (hl : news.length = 4) (h1 : ∀ u ∈ news, u.oneCell' = true) (h1x : ∀ u ∈ xs, u.oneCell' = true) (hm : n ≤ 1000000) (hi : i ≤ n) (hn0 : n0 ≤ w.heap.size) :
    Calls Tryz.prog 31 #[v, .int .i64 (i : Int), .slice (some ⟨vb, 0, none⟩) 1 1] w fun e w' => InsPost 71 4 n0 n i v xs news w e w' := by
  by_cases hin : i = n
  · subst hin
    exact insS_end v i xs news vb n0 w ho hv hl h1 hm hn0
  · rcases ho.2 with ⟨h, hx⟩ | ⟨g, cap, cur, h, a, b, c, d, e, f⟩
    · exfalso
      have h2 := ho.1
      subst hx
      simp at h2
      omega
    · subst h
      by_cases hc : n + 1 ≤ cap
      · exact insS_room g cap n i xs news vb n0 w ho hv hl h1 h1x hm (by omega) hc (fun hh => hvb (by rw [hh]; rfl))
      · exact insS_grow g cap n i xs news vb n0 w ho hv hl h1 h1x hm (by omega) (by omega) hn0
end Go.Proofs.YtadkeohohehmcaaGreatDoor.Top
end
