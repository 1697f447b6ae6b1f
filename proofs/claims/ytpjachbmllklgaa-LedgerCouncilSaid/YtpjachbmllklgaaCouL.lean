/- ledger.Council. -/
import Derived.Test.YtpjachbmllklgaaRng2
import Derived.Test.YtpjachbmllklgaaRunL
namespace Go.Proofs.Ytpjachbmllklgaa.Rng
open Go.RowKit Go.Shelf Go.Proofs.YtpjachbmllklgaaW.PrintWords Go.Proofs.Ytpjachbmllklgaa.Kinds Go.Proofs.Ytpjachbmllklgaa.PCou
set_option linter.unusedVariables false
set_option linter.unusedSimpArgs false
attribute [local go_sem] Oper.semAt_some

/-- The council up to a number: the last one of the first k entries, else z. -/
def couX (ys : List Ent) (index : Int) (z : (List Int × List Int) × Int) : Nat → (List Int × List Int) × Int
  | 0 => z
  | k + 1 => if ys[k]!.2.2.1 = 3 ∧ ys[k]!.1 ≤ index then (ys[k]!.2.2.2.2, ys[k]!.1) else couX ys index z k
theorem bw_split (css : List (List Value)) : ∀ (n : Nat) (pre : List (Nat × List Value)) (x : Nat × List Value) (rest : List (Nat × List Value)), bw css n = pre ++ x :: rest → ∃ m, n = m + pre.length + 1 ∧ x = (m, css[m]!)
  | 0, pre, x, rest, h => by
    have : ([] : List (Nat × List Value)) = pre ++ x :: rest := h
    simp at this
  | n + 1, [], x, rest, h => by
    rw [bw] at h
    simp only [List.nil_append, List.cons.injEq] at h
    exact ⟨n, rfl, h.1.symm⟩
  | n + 1, p :: pre, x, rest, h => by
    rw [bw] at h
    simp only [List.cons_append, List.cons.injEq] at h
    obtain ⟨m, h1, h2⟩ := bw_split css n pre x rest h.2
    exact ⟨m, by simp only [List.length_cons]; omega, h2⟩
/-- What the loop holds; what it leaves with. -/
def CouI (ys : List Ent) (index : Int) (z : (List Int × List Int) × Int) (n B : Nat) (cells : Array Value) (w : World) (pre : List (Nat × List Value)) (Y : World) : Prop :=
  (∀ m, n = m + pre.length → couX ys index z n = couX ys index z m) ∧ Y.heap[B]? = some (.cells cells 30 (0, 0)) ∧ Y.heap[B + 1]? = some (.cells #[.int .i64 index] 3 (0, 0)) ∧ Y.heap[B + 2]? = some (.cells #[.slice none 0 0, .slice none 0 0] 24 (0, 0)) ∧ Y.heap[B + 3]? = some (.cells #[.int .i64 0] 3 (0, 0)) ∧ Below w.heap.size w Y
def CouX (ys : List Ent) (index : Int) (z : (List Int × List Int) × Int) (n B M : Nat) (w : World) (c : Code) (pre : List (Nat × List Value)) (Y : World) : Prop :=
  c = .ret ∧ ∃ (V L : Value), Y.heap[B + 2]? = some (.cells #[V, L] 24 (0, 0)) ∧ Y.heap[B + 3]? = some (.cells #[.int .i64 (couX ys index z n).2] 3 (0, 0)) ∧ (Kd.int .i64).R 3 Y M (fun _ => True) V (couX ys index z n).1.1 ∧ (Kd.int .i64).R 3 Y M (fun _ => True) L (couX ys index z n).1.2 ∧ Below w.heap.size w Y
theorem results_cou {fn : Func} {p q : Tmp} (h : fn.results = #[.cell p 24, .cell q 3]) (tmps : Array Value) (w : World) (g k : Nat) (t1 t2 : TypeId) (V L : Value) (y : Int)
    (hp : tmps[p]? = some (.pointer (some ⟨g, 0, none⟩))) (hq : tmps[q]? = some (.pointer (some ⟨k, 0, none⟩))) (hg : w.heap[g]? = some (.cells #[V, L] t1 (0, 0))) (hk : w.heap[k]? = some (.cells #[.int .i64 y] t2 (0, 0))) :
    (results fn tmps).run Try.prog w = .ok (.tuple #[.agg #[V, L], .int .i64 y]) w := by
  have hp' : tmps[p]?.getD undef = .pointer (some ⟨g, 0, none⟩) := by rw [hp]; rfl
  have hq' : tmps[q]?.getD undef = .pointer (some ⟨k, 0, none⟩) := by rw [hq]; rfl
  have c1 : w.cell? ⟨g, 0, none⟩ = some V := by simp [World.cell?, hg]
  have c1' : w.cell? ⟨g, 1, none⟩ = some L := by simp [World.cell?, hg]
  have c2 : w.cell? ⟨k, 0, none⟩ = some (.int .i64 y) := by simp [World.cell?, hk]
  simp [results, h, hp', hq', asAddr, go_sem, c1, c1', c2]
theorem below_putObj2 {n0 l : Nat} (A : World) (hl : n0 ≤ l) (o : Obj) : Below n0 A (A.putObj l o) := ⟨rfl, rfl, rfl, by simp [World.putObj], fun k hk => World.putObj_heap_other (by omega)⟩
/-- Rows of one's own beyond what is put. -/
theorem R_put {α : Type} {d : Kd α} {e M l : Nat} {ok : Nat → Prop} {A : World} {v : Value} {xs : List α} (h : d.R e A M ok v xs) (hl : l < M) (o : Obj) : d.R e (A.putObj l o) M ok v xs :=
  Kd.R_mono (Kd.R_step (Kd.R_bound h) (fun k hk _ => World.putObj_heap_other (by have := hk.2.1; omega))) (fun k hk => hk.1)
theorem set3 {A : World} {p : Nat} {a b u V L y : Value} (h1 : A.heap[p]? = some (.cells #[a, b] 24 (0, 0))) (h2 : A.heap[p + 1]? = some (.cells #[u] 3 (0, 0))) :
    (((A.setCell ⟨p, 0, none⟩ V).setCell ⟨p, 1, none⟩ L).setCell ⟨p + 1, 0, none⟩ y).heap[p]? = some (.cells #[V, L] 24 (0, 0)) ∧ (((A.setCell ⟨p, 0, none⟩ V).setCell ⟨p, 1, none⟩ L).setCell ⟨p + 1, 0, none⟩ y).heap[p + 1]? = some (.cells #[y] 3 (0, 0)) ∧
    (∀ k, k ≠ p → k ≠ p + 1 → (((A.setCell ⟨p, 0, none⟩ V).setCell ⟨p, 1, none⟩ L).setCell ⟨p + 1, 0, none⟩ y).heap[k]? = A.heap[k]?) ∧ (((A.setCell ⟨p, 0, none⟩ V).setCell ⟨p, 1, none⟩ L).setCell ⟨p + 1, 0, none⟩ y).heap.size = A.heap.size ∧
    (∀ n0 w, Below n0 w A → n0 ≤ p → Below n0 w (((A.setCell ⟨p, 0, none⟩ V).setCell ⟨p, 1, none⟩ L).setCell ⟨p + 1, 0, none⟩ y)) := by
  refine ⟨?_, ?_, fun k h3 h4 => by rw [heap_set_other h4, heap_set_other h3, heap_set_other h3], by simp only [set_size], fun n0 w hb hn => ((hb.setCell (p := ⟨p, 0, none⟩) hn _).setCell (p := ⟨p, 1, none⟩) hn _).setCell (p := ⟨p + 1, 0, none⟩) (by show n0 ≤ p + 1; omega) _⟩
  · rw [heap_set_other (by omega)]
    simp [World.setCell, Array.getElem?_modify, h1]
  · exact heap_set_same ((heap_set_other (by omega) 1 _).trans ((heap_set_other (by omega) 0 _).trans h2))
/-- The snapshot's council, of a log that is asked. -/
def sndC (s : Sv) (x : Saved) : List Int × List Int := if checkB s.si (itX x.2.2.2.1) then x.2.2.1.2.2.1 else ([], [])
structure CC (W : World) (s2 : Sv) (c : List Int × List Int) : Prop where
  Vn : s2.Vn = c.1.length
  Vc : c.1.length ≤ s2.Vc
  VC : (Kd.int .i64).C W s2.Va c.1.length c.1
  Ln : s2.Ln = c.2.length
  Lc : c.2.length ≤ s2.Lc
  LC : (Kd.int .i64).C W s2.La c.2.length c.2
theorem C_none (W : World) : (Kd.int .i64).C W none ([] : List Int).length [] := ⟨rfl, by decide, fun g => absurd g (by decide)⟩
theorem sound_cc {W : World} {s : Sv} {x : Saved} {b off : Nat} {css : List (List Value)} (hs : SK W s x) (h : LX W s.A b off css x.2.2.2.1) : CC W (s.sound css) (sndC s x) := by
  unfold Sv.sound sndC
  rw [h.its_eq]
  cases checkB s.si (itX x.2.2.2.1) with
  | true => exact ⟨hs.Vn, hs.Vc, hs.VC, hs.Ln, hs.Lc, hs.LC⟩
  | false => exact ⟨rfl, Nat.le_refl _, C_none W, rfl, Nat.le_refl _, C_none W⟩

set_option maxHeartbeats 2000000 in
set_option maxRecDepth 100000 in
theorem council_c (s : Sv) (x : Saved) (b off : Nat) (css : List (List Value)) (w : World) (hs : SK w s x) (h : LX w s.A b off css x.2.2.2.1) (hv : x.2.2.1.2.2.1.1.length ≤ 1000000) (hl : x.2.2.1.2.2.1.2.length ≤ 1000000) (index : Int) :
    Calls Try.prog 18 #[.agg s.cells, .int .i64 index] w fun e w' => ∃ V L : Value, e = .returned (.tuple #[.agg #[V, L], .int .i64 (couX (sndX s x.2.2.2.1) index (sndC s x, (s.sound css).si) (sndX s x.2.2.2.1).length).2]) ∧
      (Kd.int .i64).R 3 w' w.heap.size (fun _ => True) V (couX (sndX s x.2.2.2.1) index (sndC s x, (s.sound css).si) (sndX s x.2.2.2.1).length).1.1 ∧ (Kd.int .i64).R 3 w' w.heap.size (fun _ => True) L (couX (sndX s x.2.2.2.1) index (sndC s x, (s.sound css).si) (sndX s x.2.2.2.1).length).1.2 ∧ Below w.heap.size w w' := by
  have hi30 : ∀ cells : Array Value, cells.size = 9 → (Try.prog.info? 30).map (·.size) = some cells.size := fun c hc => by rw [hc]; exact size30
  have hsl : s.n = css.length := by rw [h.len]; exact hs.n
  have CCw := sound_cc hs h
  have hvl : (sndC s x).1.length ≤ 1000000 ∧ (sndC s x).2.length ≤ 1000000 := by unfold sndC; split; exact ⟨hv, hl⟩; exact ⟨by simp, by simp⟩
  generalize sndC s x = sc at *
  have H := Aside0.mk h
  have HN := Aside0.mk hsl
  generalize hcv : couX (sndX s x.2.2.2.1) index (sc, (s.sound css).si) (sndX s x.2.2.2.1).length = cv
  have CV := Aside0.mk hcv
  have HCC := Aside0.mk CCw
  clear hcv CCw h hsl hs hv hl
  refine (callsIn_wide (n := 9)).1 ?_
  refine callsIn_of_wp_marks Try.func18 rfl trivial ?_ rfl
  simp only [Try.ntmps18, List.size_toArray, List.length_cons, List.length_nil, Nat.reduceAdd, Nat.reduceSub, Array.replicate_succ, Array.replicate_zero, List.push_toArray, List.append_toArray, List.nil_append, List.cons_append]
  rw [cells_eq]
  gi_wp2
  obtain ⟨W0, hW0⟩ : ∃ W0, ((((w.alloc (.cells #[.int .i64 s.t, .int .i64 s.v, .int .i64 s.si, .int .i64 s.st, .slice s.Va s.Vn s.Vc, .slice s.La s.Ln s.Lc, .string s.d, .slice s.A s.n s.cap, .slice s.Ga s.Gn s.Gc] 30)).alloc (.cells #[.int .i64 index] 3)).alloc (.cells #[.slice none 0 0, .slice none 0 0] 24)).alloc (.cells #[.int .i64 0] 3)) = W0 := ⟨_, rfl⟩
  have hb0 : Below w.heap.size w W0 := by rw [← hW0]; exact ((((Below.refl _ w).alloc (Nat.le_refl _) _).alloc (by simp) _).alloc (by simp; omega) _).alloc (by simp; omega) _
  have hs0 : W0.heap.size = w.heap.size + 4 := by rw [← hW0]; simp
  have hb : W0.heap[w.heap.size]? = some (.cells #[.int .i64 s.t, .int .i64 s.v, .int .i64 s.si, .int .i64 s.st, .slice s.Va s.Vn s.Vc, .slice s.La s.Ln s.Lc, .string s.d, .slice s.A s.n s.cap, .slice s.Ga s.Gn s.Gc] 30 (0, 0)) := by
    rw [← hW0]; exact blk_alloc (blk_alloc (blk_alloc (blk_new w (.cells #[.int .i64 s.t, .int .i64 s.v, .int .i64 s.si, .int .i64 s.st, .slice s.Va s.Vn s.Vc, .slice s.La s.Ln s.Lc, .string s.d, .slice s.A s.n s.cap, .slice s.Ga s.Gn s.Gc] 30)) (.cells #[.int .i64 index] 3)) (.cells #[.slice none 0 0, .slice none 0 0] 24)) (.cells #[.int .i64 0] 3)
  have hbi : W0.heap[w.heap.size + 1]? = some (.cells #[.int .i64 index] 3 (0, 0)) := by
    have := blk_alloc (blk_alloc (blk_new (w.alloc (.cells #[.int .i64 s.t, .int .i64 s.v, .int .i64 s.si, .int .i64 s.st, .slice s.Va s.Vn s.Vc, .slice s.La s.Ln s.Lc, .string s.d, .slice s.A s.n s.cap, .slice s.Ga s.Gn s.Gc] 30)) (.cells #[.int .i64 index] 3)) (.cells #[.slice none 0 0, .slice none 0 0] 24)) (.cells #[.int .i64 0] 3)
    rw [World.size_alloc] at this
    rw [← hW0]; exact this
  have hbr : W0.heap[w.heap.size + 2]? = some (.cells #[.slice none 0 0, .slice none 0 0] 24 (0, 0)) := by
    have := blk_alloc (blk_new ((w.alloc (.cells #[.int .i64 s.t, .int .i64 s.v, .int .i64 s.si, .int .i64 s.st, .slice s.Va s.Vn s.Vc, .slice s.La s.Ln s.Lc, .string s.d, .slice s.A s.n s.cap, .slice s.Ga s.Gn s.Gc] 30)).alloc (.cells #[.int .i64 index] 3)) (.cells #[.slice none 0 0, .slice none 0 0] 24)) (.cells #[.int .i64 0] 3)
    rw [World.size_alloc, World.size_alloc] at this
    rw [← hW0]; exact this
  have hba : W0.heap[w.heap.size + 3]? = some (.cells #[.int .i64 0] 3 (0, 0)) := by
    have := blk_new (((w.alloc (.cells #[.int .i64 s.t, .int .i64 s.v, .int .i64 s.si, .int .i64 s.st, .slice s.Va s.Vn s.Vc, .slice s.La s.Ln s.Lc, .string s.d, .slice s.A s.n s.cap, .slice s.Ga s.Gn s.Gc] 30)).alloc (.cells #[.int .i64 index] 3)).alloc (.cells #[.slice none 0 0, .slice none 0 0] 24)) (.cells #[.int .i64 0] 3)
    rw [World.size_alloc, World.size_alloc, World.size_alloc] at this
    rw [← hW0]; exact this
  rw [hW0]
  clear hW0
  have hL0 := H.out.below hb0
  refine ⟨trivial, CallsIn.mono (callsIn_wide.2 (sound_c s b off css W0 (hL0.lg HN.out))) ?_⟩
  rintro e w2 ⟨rfl, hb2⟩
  have HL : Aside0 (∀ W, Below w.heap.size w W → LX W (s.sound css).A b off (soundE s css) (sndX s x.2.2.2.1)) := ⟨fun W hW => (H.out.below hW).sound⟩
  have hn2 : (s.sound css).n = (soundE s css).length := ((hL0.lg HN.out).sound).n
  have hemp : soundE s css ≠ [] → b < w.heap.size := fun g => by
    rcases H.out.b with k | k
    · exact k
    · exfalso; apply g; unfold soundE; rw [k]; split <;> rfl
  have hly : (soundE s css).length = (sndX s x.2.2.2.1).length := (HL.out w (Below.refl _ _)).len
  rw [← hly] at CV
  clear hL0 H HN hly
  generalize s.sound css = s2 at *
  generalize soundE s css = css2 at *
  generalize sndX s x.2.2.2.1 = ys at *
  have hsz2 : w.heap.size + 4 ≤ w2.heap.size := by have := hb2.size; omega
  have hbx2 := (hb2.block w.heap.size (by omega)).trans hb
  have hbi2 := (hb2.block (w.heap.size + 1) (by omega)).trans hbi
  have hbr2 := (hb2.block (w.heap.size + 2) (by omega)).trans hbr
  have hba2 := (hb2.block (w.heap.size + 3) (by omega)).trans hba
  have hbw2 : Below w.heap.size w w2 := hb0.trans (hb2.mono hb0.size)
  clear hb0 hb2 hbi hbr hs0 hb hba
  have hcs := cells_eq s2
  rw [hcs]
  gi_wp2_with (refine wpListIn_store_box rfl 30 (.tmp 2) (.tmp 9) rfl w.heap.size _ _ 30 rfl rfl hbx2 (hi30 _ rfl) rfl (by simp [Value.oneCell']) ?_)
  intro W3 hg3 ho3 hb3 hs3
  have hbi3 := (ho3 (w.heap.size + 1) (by omega)).trans hbi2
  have hbr3 := (ho3 (w.heap.size + 2) (by omega)).trans hbr2
  have hba3 := (ho3 (w.heap.size + 3) (by omega)).trans hba2
  have q3 : Below w.heap.size w W3 := hbw2.trans hb3
  have c7 : W3.cell? ⟨w.heap.size, 7, none⟩ = some (.slice s2.A css2.length s2.cap) := by simp [World.cell?, hg3]
  have hl3 : w.heap.size + 4 ≤ W3.heap.size := by omega
  clear hbx2 hbi2 hbr2 hba2 ho3 hb3 hbw2 hcs hs3 hsz2 w2
  gi_wp2
  refine ⟨trivial, CallsIn.mono (backward_in _ s2.A css2.length s2.cap W3) ?_⟩
  rintro e w' ⟨rfl, rfl⟩
  obtain ⟨W5, hW5⟩ : ∃ W5, W3.alloc (.cells #[.slice s2.A css2.length s2.cap] 27) = W5 := ⟨_, rfl⟩
  have hb5 : Below W3.heap.size W3 W5 := by rw [← hW5]; exact (Below.refl _ W3).alloc (Nat.le_refl _) _
  have hs5 : W5.heap.size = W3.heap.size + 1 := by rw [← hW5]; simp
  have hbk5 : W5.heap[W3.heap.size]? = some (.cells #[.slice s2.A css2.length s2.cap] 27 (0, 0)) := by rw [← hW5]; exact blk_new W3 _
  rw [hW5]
  clear hW5
  have hx5 := (hb5.block w.heap.size (by omega)).trans hg3
  have hi5 := (hb5.block (w.heap.size + 1) (by omega)).trans hbi3
  have hr5 := (hb5.block (w.heap.size + 2) (by omega)).trans hbr3
  have ha5 := (hb5.block (w.heap.size + 3) (by omega)).trans hba3
  have q5 : Below w.heap.size w W5 := q3.trans (hb5.mono q3.size)
  obtain ⟨bxc, hbxc⟩ : ∃ c, (#[.int .i64 s2.t, .int .i64 s2.v, .int .i64 s2.si, .int .i64 s2.st, .slice s2.Va s2.Vn s2.Vc, .slice s2.La s2.Ln s2.Lc, .string s2.d, .slice s2.A css2.length s2.cap, .slice s2.Ga s2.Gn s2.Gc] : Array Value) = c := ⟨_, rfl⟩
  rw [hbxc] at hx5
  have BXC := Aside0.mk hbxc
  clear hbxc
  have hL5 := HL.out W5 q5
  obtain ⟨b2, hb2lt, hbn, hA5, hrow5⟩ : ∃ b2, b2 < W5.heap.size ∧ (b2 ≠ w.heap.size + 2 ∧ b2 ≠ w.heap.size + 3) ∧ (0 < css2.length → s2.A = some ⟨b2, off, none⟩) ∧ Row W5 b2 off css2 := by
    by_cases g : css2 = []
    · exact ⟨W3.heap.size, by omega, by omega, fun k => by rw [g] at k; simp at k, fun j hj => by rw [g] at hj; simp at hj⟩
    · have := hemp g
      exact ⟨b, by omega, by omega, hL5.A, hL5.row⟩
  have h435 : ∀ j, j < css2.length → css2[j]!.length = 43 := fun j hj => (hL5.isE j hj).1.len
  have hlen5 : css2.length ≤ 1000000 := hL5.small
  generalize hbw : W3.heap.size = bw5 at *
  clear hemp hb5 hbi3 hbr3 hba3 q3 hg3 c7 hL5 hbw W3
  have HI : Aside0 (∀ X, Below w.heap.size w X → CC X s2 sc) := ⟨fun X hX => ⟨HCC.out.Vn, HCC.out.Vc, Kd.C_below HCC.out.VC hX, HCC.out.Ln, HCC.out.Lc, Kd.C_below HCC.out.LC hX⟩⟩
  have HVL := Aside0.mk hvl
  clear HCC hvl
  gi_wp2
  refine wpIn_rangeFunc_st2 (gf := 65) (lb := #[.pointer (some ⟨bw5, 0, none⟩)]) (encs := fun x : Nat × List Value => #[.int .i64 (x.1 : Int), .agg x.2.toArray]) rfl (enters_of Try.func65 (by kernel_rfl) rfl)
    (back_steps2 8 (by omega) bw5 b2 off s2.cap s2.A css2 hA5 h435 hlen5) (fun _ => rfl)
    ⟨by simp [World.cell?, hbk5], hrow5⟩
    (fun Y Z hY hu => ⟨by have := hu bw5 (.inl rfl); simpa [World.cell?, this] using hY.1, hY.2.same (hu b2 (.inr rfl))⟩)
    (fun k hk => by rcases hk with rfl | rfl <;> omega)
    (CouI ys index (sc, s2.si) css2.length w.heap.size bxc w)
    (CouX ys index (sc, s2.si) css2.length w.heap.size (W5.heap.size + 2) w)
    (fun pre Y Z hY hb => by
      obtain ⟨e, k1, k2, k3, k4, k5⟩ := hY
      exact ⟨e, (hb.block _ (by omega)).trans k1, (hb.block _ (by omega)).trans k2, (hb.block _ (by omega)).trans k3, (hb.block _ (by omega)).trans k4, k5.trans (hb.mono (by omega))⟩)
    (fun c pre Y o hY => by
      obtain ⟨e, V, L, k1, k2, k3, k4, k5⟩ := hY
      exact ⟨e, V, L, (World.putObj_heap_other (by omega)).trans k1, (World.putObj_heap_other (by omega)).trans k2, R_put k3 (by omega) o, R_put k4 (by omega) o, k5.trans (below_putObj2 Y (by omega) o)⟩)
    ⟨fun m hm => by simp at hm; rw [hm], hx5, hi5, hr5, ha5, q5⟩ ?round ?done ?stop
  case round =>
    rintro pre y rest X hxs ⟨hF, hXb, hXi, hXr, hXa, hXq⟩ hHold hltX
    obtain ⟨m, hm, rfl⟩ := bw_split css2 _ pre y rest hxs
    dsimp only
    have hLX := HL.out w (Below.refl _ _)
    have hKm := hLX.K m (by omega)
    have hcou := hLX.cou _ (hLX.mem m (by omega))
    have hE := (hLX.isE m (by omega)).1
    obtain ⟨h32, A1, c1, B1, d1, hcs1, p1, p2, p3, p4⟩ := ent_parts hKm
    have hcx : couX ys index (sc, s2.si) css2.length = if ys[m]!.2.2.1 = 3 ∧ ys[m]!.1 ≤ index then (ys[m]!.2.2.2.2, ys[m]!.1) else couX ys index (sc, s2.si) m := by rw [hF (m + 1) (by omega)]; rfl
    have HCX := Aside0.mk hcx
    clear hLX hKm hcx
    generalize ys[m]! = xm at *
    generalize css2[m]! = cs at *
    have hl41 := entHd_length xm h32
    have e0 : cs[0]? = some (.int .i64 xm.1) := by rw [hcs1]; rfl
    have e2 : cs[2]? = some (.int .i64 xm.2.2.1) := by rw [hcs1]; rfl
    have e41 : cs[41]? = some (.slice A1 xm.2.2.2.2.1.length c1) := by rw [hcs1, List.getElem?_append_right (by omega), hl41]; rfl
    have e42 : cs[42]? = some (.slice B1 xm.2.2.2.2.2.length d1) := by rw [hcs1, List.getElem?_append_right (by omega), hl41]; rfl
    have hi59 : (Try.prog.info? 59).map (·.size) = some cs.toArray.size := by rw [List.size_toArray, hE.len]; exact size59
    have h1c := all_one hE.one
    have hlen0 : cs.length = 43 := hE.len
    have HM := Aside0.mk hm
    have hmn : m < css2.length := by omega
    clear hHold hcs1 hE h32 hl41 hm hA5
    gi_wp2_with (refine wpListIn_store_new rfl 59 (.tmp 7) (.tmp 14) rfl cs.toArray _ 59 rfl rfl hi59 ?hold h1c ?_)
    case hold => simp [hlen0]
    have hal : ∀ k, k < X.heap.size → (X.alloc (.cells cs.toArray 59)).heap[k]? = X.heap[k]? := fun k hk => ((Below.refl X.heap.size X).alloc (Nat.le_refl _) _).block k hk
    refine ⟨⟨by simp, fun k _ h2 => hal k h2, fun k hk => hal k (by rcases hk with rfl | rfl <;> omega)⟩, fun Y hbY hsY hoY => ?_⟩
    have hsY' : Y.heap.size = X.heap.size + 1 := by rw [hsY]; simp
    have hYX : ∀ k, k ≠ bw5 + 1 + 1 → k < X.heap.size → Y.heap[k]? = X.heap[k]? := fun k h1 h2 => (hoY k (by omega)).trans (hal k h2)
    have vb := (hYX w.heap.size (by omega) (by omega)).trans hXb
    have vi := (hYX (w.heap.size + 1) (by omega) (by omega)).trans hXi
    have vr := (hYX (w.heap.size + 2) (by omega) (by omega)).trans hXr
    have va := (hYX (w.heap.size + 3) (by omega) (by omega)).trans hXa
    have qY : Below w.heap.size w Y := hXq.trans ((((Below.refl X.heap.size X).alloc (Nat.le_refl _) _).mono (by omega)).trans (hbY.mono (by omega)))
    have ve : Y.heap[X.heap.size]? = some (.cells cs.toArray 59 (0, 0)) := (hoY _ (by omega)).trans (blk_new X _)
    have g0 : Y.cell? ⟨X.heap.size, 0, none⟩ = some (.int .i64 xm.1) := by simp [World.cell?, ve, e0]
    have g2 : Y.cell? ⟨X.heap.size, 2, none⟩ = some (.int .i64 xm.2.2.1) := by simp [World.cell?, ve, e2]
    have gi : Y.cell? ⟨w.heap.size + 1, 0, none⟩ = some (.int .i64 index) := by simp [World.cell?, vi]
    have HFm : Aside0 (¬ (xm.2.2.1 = 3 ∧ xm.1 ≤ index) → CouI ys index (sc, s2.si) css2.length w.heap.size bxc w (pre ++ [(m, cs)]) Y) := ⟨fun hno => ⟨fun m' hm' => by
      have : m' = m := by have := HM.out; simp at hm'; omega
      rw [HCX.out, if_neg hno, this], vb, vi, vr, va, qY⟩⟩
    clear hF hXb hXi hXr hXa hal hoY hbY
    by_cases h3 : xm.2.2.1 = 3
    · by_cases h4 : xm.1 ≤ index
      · have hcx := HCX.out
        rw [if_pos ⟨h3, h4⟩] at hcx
        have HCX2 := Aside0.mk hcx
        have H46 : Aside0 (∀ W, Below w.heap.size w W → Calls Try.prog 46 #[.agg #[.slice A1 xm.2.2.2.2.1.length c1, .slice B1 xm.2.2.2.2.2.length d1]] W fun e w' => ∃ V L : Value, e = .returned (.agg #[V, L]) ∧ (Kd.int .i64).R 3 w' W.heap.size (fun _ => True) V xm.2.2.2.2.1 ∧ (Kd.int .i64).R 3 w' W.heap.size (fun _ => True) L xm.2.2.2.2.2 ∧ Below W.heap.size W w') :=
          ⟨fun W hW => by
            refine (ledger_own.calls A1 c1 _ B1 d1 _ _ _ W (Kd.C_below p2 hW) p1 (Kd.C_below p4 hW) p3 (by unfold ledger_own.f slices_Clone_int_int.f; rw [if_pos hcou.1, if_pos hcou.2]; rfl)).mono ?_
            rintro e w' ⟨V, L, rfl, hV, hL, hb⟩
            exact ⟨V, L, rfl, Kd.R_mono hV (fun _ _ => trivial), Kd.R_mono hL (fun _ _ => trivial), hb⟩⟩
        have P2 := Aside0.mk hcou
        clear HFm HCX hcx p1 p2 p3 p4 hcou gi g2
        have g41 : Y.cell? ⟨X.heap.size, 41, none⟩ = some (.slice A1 xm.2.2.2.2.1.length c1) := by simp [World.cell?, ve, e41]
        have g42 : Y.cell? ⟨X.heap.size, 42, none⟩ = some (.slice B1 xm.2.2.2.2.2.length d1) := by simp [World.cell?, ve, e42]
        have KIND : Y.cell? ⟨X.heap.size, 2, none⟩ = some (.int .i64 3) := by simp [World.cell?, ve, e2, h3]
        have gi : Y.cell? ⟨w.heap.size + 1, 0, none⟩ = some (.int .i64 index) := by simp [World.cell?, vi]
        have H4 := Aside0.mk h4
        have EC0 : Aside0 (∀ W : World, W.heap[X.heap.size]? = some (.cells cs.toArray 59 (0, 0)) → W.cell? ⟨X.heap.size, 0, none⟩ = some (.int .i64 xm.1)) := ⟨fun W hW => by simp [World.cell?, hW, e0]⟩
        have R0 : Aside0 (∀ W : World, W.heap[w.heap.size + 2]? = some (.cells #[.slice none 0 0, .slice none 0 0] 24 (0, 0)) → W.cell? ⟨w.heap.size + 1 + 1, 0, none⟩ = some (.slice none 0 0)) := ⟨fun W hW => by simp [World.cell?, hW]⟩
        have R1 : Aside0 (∀ W : World, W.heap[w.heap.size + 2]? = some (.cells #[.slice none 0 0, .slice none 0 0] 24 (0, 0)) → W.cell? ⟨w.heap.size + 1 + 1, 1, none⟩ = some (.slice none 0 0)) := ⟨fun W hW => by simp [World.cell?, hW]⟩
        have R2 : Aside0 (∀ W : World, W.heap[w.heap.size + 2]? = some (.cells #[.slice none 0 0, .slice none 0 0] 24 (0, 0)) → W.frozen? ⟨w.heap.size + 1 + 1, 0, none⟩ = false) := ⟨fun W hW => by simp [World.frozen?, hW]⟩
        have R3 : Aside0 (∀ W : World, W.heap[w.heap.size + 2]? = some (.cells #[.slice none 0 0, .slice none 0 0] 24 (0, 0)) → W.frozen? ⟨w.heap.size + 1 + 1, 1, none⟩ = false) := ⟨fun W hW => by simp [World.frozen?, hW]⟩
        have R4 : Aside0 (∀ W : World, W.heap[w.heap.size + 3]? = some (.cells #[.int .i64 0] 3 (0, 0)) → W.cell? ⟨w.heap.size + 1 + 1 + 1, 0, none⟩ = some (.int .i64 0)) := ⟨fun W hW => by simp [World.cell?, hW]⟩
        have R5 : Aside0 (∀ W : World, W.heap[w.heap.size + 3]? = some (.cells #[.int .i64 0] 3 (0, 0)) → W.frozen? ⟨w.heap.size + 1 + 1 + 1, 0, none⟩ = false) := ⟨fun W hW => by simp [World.frozen?, hW]⟩
        have hlr2 : w.heap.size + 2 < Y.heap.size := by omega
        have hlr3 : w.heap.size + 3 < Y.heap.size := by omega
        have hlre : X.heap.size < Y.heap.size := by omega
        clear e0 e2 e41 e42 h3
        generalize xm.2.2.2.2.1.length = nv at *
        generalize xm.2.2.2.2.2.length = nl at *
        have FIN : Aside0 (∀ (w' : World) (V L : Value), Below Y.heap.size Y.drew w' → (Kd.int .i64).R 3 w' Y.heap.size (fun _ => True) V xm.2.2.2.2.1 → (Kd.int .i64).R 3 w' Y.heap.size (fun _ => True) L xm.2.2.2.2.2 →
            Kp (bw5 + 1) (fun k => k = bw5 ∨ k = b2) Y (((w'.setCell ⟨w.heap.size + 1 + 1, 0, none⟩ V).setCell ⟨w.heap.size + 1 + 1, 1, none⟩ L).setCell ⟨w.heap.size + 1 + 1 + 1, 0, none⟩ (.int .i64 xm.1)) ∧
            CouX ys index (sc, s2.si) css2.length w.heap.size (bw5 + 1 + 2) w .ret (pre ++ [(m, cs)]) (((w'.setCell ⟨w.heap.size + 1 + 1, 0, none⟩ V).setCell ⟨w.heap.size + 1 + 1, 1, none⟩ L).setCell ⟨w.heap.size + 1 + 1 + 1, 0, none⟩ (.int .i64 xm.1))) := ⟨fun w' V L hb hV hL => by
          obtain ⟨z1, z2, z3, z4, z5⟩ := set3 (V := V) (L := L) (y := .int .i64 xm.1) ((hb.block (w.heap.size + 1 + 1) (by omega)).trans vr) ((hb.block (w.heap.size + 1 + 1 + 1) (by omega)).trans va)
          have hsz : Y.heap.size ≤ w'.heap.size := hb.size
          refine ⟨⟨by omega, fun k h1 h2 => (z3 k (by omega) (by omega)).trans (hb.block k h2), fun k hk => by rcases hk with rfl | rfl <;> exact (z3 _ (by omega) (by omega)).trans (hb.block _ (by omega))⟩, rfl, V, L, z1, ?_, ?_, ?_, z5 _ _ (qY.drew.trans (hb.mono (by omega))) (by omega)⟩
          · rw [HCX2.out]; exact z2
          · rw [HCX2.out]
            exact Kd.R_mono (Kd.R_step (Kd.R_lower (Kd.R_bound hV) (by omega)) (fun k hk _ => z3 k (by have := hk.2.1; omega) (by have := hk.2.1; omega))) (fun _ _ => trivial)
          · rw [HCX2.out]
            exact Kd.R_mono (Kd.R_step (Kd.R_lower (Kd.R_bound hL) (by omega)) (fun k hk _ => z3 k (by have := hk.2.1; omega) (by have := hk.2.1; omega))) (fun _ _ => trivial)⟩
        have e46 : ∀ args w, (callFunc 46 args).run Try.prog w = .ok (.enter 46 args) w := enters_of Try.func46 (by kernel_rfl) rfl
        gi_wp2
        gi_region_with (refine ⟨trivial, CallsIn.mono (CallsIn.inRound _ (callsIn_wide.2 (H46.out _ (by first | exact qY | exact qY.drew)))) ?_⟩; rintro e w' ⟨V, L, rfl, hV, hL, hb⟩; obtain ⟨Av, cv_, rfl⟩ := Kd.R_slice hV; obtain ⟨Al, cl, rfl⟩ := Kd.R_slice hL; have kr := (hb.block (w.heap.size + 2) hlr2).trans vr; have ka := (hb.block (w.heap.size + 3) hlr3).trans va; have ke := (hb.block X.heap.size hlre).trans ve; have g0' : w'.cell? ⟨X.heap.size, 0, none⟩ = some (.int .i64 xm.1) := EC0.out _ ke; have r0 : w'.cell? ⟨w.heap.size + 1 + 1, 0, none⟩ = some (.slice none 0 0) := R0.out _ kr; have r1 : w'.cell? ⟨w.heap.size + 1 + 1, 1, none⟩ = some (.slice none 0 0) := R1.out _ kr; have r2 : w'.frozen? ⟨w.heap.size + 1 + 1, 0, none⟩ = false := R2.out _ kr; have r3 : w'.frozen? ⟨w.heap.size + 1 + 1, 1, none⟩ = false := R3.out _ kr; have r4 : w'.cell? ⟨w.heap.size + 1 + 1 + 1, 0, none⟩ = some (.int .i64 0) := R4.out _ ka; have r5 : w'.frozen? ⟨w.heap.size + 1 + 1 + 1, 0, none⟩ = false := R5.out _ ka)
        all_goals
          have hfz := FIN.out _ _ _ hb hV hL
          rw [← hs5] at hfz
          have HFZ := Aside0.mk hfz
          clear hfz r0 r1 r2 r3 r4 r5 g0' kr ka ke hb hV hL
          gi_wp2
          exact HFZ.out
      · have HX := Aside0.mk (HFm.out (fun h => h4 h.2))
        clear HFm
        gi_wp2
        exact ⟨Kp.refl _ _ _, HX.out⟩
    · have HX := Aside0.mk (HFm.out (fun h => h3 h.1))
      clear HFm
      gi_wp2
      exact ⟨Kp.refl _ _ _, HX.out⟩
  case done =>
    rintro X ⟨hF, hXb, hXi, hXr, hXa, hXq⟩ hHold hltX hD
    have hcz : couX ys index (sc, s2.si) css2.length = (sc, s2.si) := by
      have hbl : ∀ n, (bw css2 n).length = n := fun n => by
        induction n with
        | zero => rfl
        | succ n ih => rw [bw, List.length_cons, ih]
      rw [hF 0 (by rw [hbl, Nat.zero_add])]
      rfl
    have hcv : cv = (sc, s2.si) := by rw [← CV.out, hcz]
    have HCV := Aside0.mk hcv
    have H46 : Aside0 (∀ W, Below w.heap.size w W → Calls Try.prog 46 #[.agg #[.slice s2.Va s2.Vn s2.Vc, .slice s2.La s2.Ln s2.Lc]] W fun e w' => ∃ V L : Value, e = .returned (.agg #[V, L]) ∧ (Kd.int .i64).R 3 w' W.heap.size (fun _ => True) V sc.1 ∧ (Kd.int .i64).R 3 w' W.heap.size (fun _ => True) L sc.2 ∧ Below W.heap.size W w') :=
      ⟨fun W hW => by
        have h := HI.out W hW
        have := ledger_own.calls s2.Va s2.Vc sc.1 s2.La s2.Lc sc.2 sc.1 sc.2 W h.VC h.Vc h.LC h.Lc (by unfold ledger_own.f slices_Clone_int_int.f; rw [if_pos (by have := HVL.out; omega), if_pos (by have := HVL.out; omega)]; rfl)
        rw [← h.Vn, ← h.Ln] at this
        refine this.mono ?_
        rintro e w' ⟨V, L, rfl, hV, hL, hb⟩
        exact ⟨V, L, rfl, Kd.R_mono hV (fun _ _ => trivial), Kd.R_mono hL (fun _ _ => trivial), hb⟩⟩
    rw [← BXC.out] at hXb
    have g2 : X.cell? ⟨w.heap.size, 2, none⟩ = some (.int .i64 s2.si) := by simp [World.cell?, hXb]
    have g4 : X.cell? ⟨w.heap.size, 4, none⟩ = some (.slice s2.Va s2.Vn s2.Vc) := by simp [World.cell?, hXb]
    have g5 : X.cell? ⟨w.heap.size, 5, none⟩ = some (.slice s2.La s2.Ln s2.Lc) := by simp [World.cell?, hXb]
    have EC0 : Aside0 (∀ W : World, W.heap[w.heap.size]? = some (.cells #[.int .i64 s2.t, .int .i64 s2.v, .int .i64 s2.si, .int .i64 s2.st, .slice s2.Va s2.Vn s2.Vc, .slice s2.La s2.Ln s2.Lc, .string s2.d, .slice s2.A css2.length s2.cap, .slice s2.Ga s2.Gn s2.Gc] 30 (0, 0)) → W.cell? ⟨w.heap.size, 2, none⟩ = some (.int .i64 s2.si)) := ⟨fun W hW => by simp [World.cell?, hW]⟩
    have R0 : Aside0 (∀ W : World, W.heap[w.heap.size + 2]? = some (.cells #[.slice none 0 0, .slice none 0 0] 24 (0, 0)) → W.cell? ⟨w.heap.size + 1 + 1, 0, none⟩ = some (.slice none 0 0)) := ⟨fun W hW => by simp [World.cell?, hW]⟩
    have R1 : Aside0 (∀ W : World, W.heap[w.heap.size + 2]? = some (.cells #[.slice none 0 0, .slice none 0 0] 24 (0, 0)) → W.cell? ⟨w.heap.size + 1 + 1, 1, none⟩ = some (.slice none 0 0)) := ⟨fun W hW => by simp [World.cell?, hW]⟩
    have R2 : Aside0 (∀ W : World, W.heap[w.heap.size + 2]? = some (.cells #[.slice none 0 0, .slice none 0 0] 24 (0, 0)) → W.frozen? ⟨w.heap.size + 1 + 1, 0, none⟩ = false) := ⟨fun W hW => by simp [World.frozen?, hW]⟩
    have R3 : Aside0 (∀ W : World, W.heap[w.heap.size + 2]? = some (.cells #[.slice none 0 0, .slice none 0 0] 24 (0, 0)) → W.frozen? ⟨w.heap.size + 1 + 1, 1, none⟩ = false) := ⟨fun W hW => by simp [World.frozen?, hW]⟩
    have R4 : Aside0 (∀ W : World, W.heap[w.heap.size + 3]? = some (.cells #[.int .i64 0] 3 (0, 0)) → W.cell? ⟨w.heap.size + 1 + 1 + 1, 0, none⟩ = some (.int .i64 0)) := ⟨fun W hW => by simp [World.cell?, hW]⟩
    have R5 : Aside0 (∀ W : World, W.heap[w.heap.size + 3]? = some (.cells #[.int .i64 0] 3 (0, 0)) → W.frozen? ⟨w.heap.size + 1 + 1 + 1, 0, none⟩ = false) := ⟨fun W hW => by simp [World.frozen?, hW]⟩
    have hlr0 : w.heap.size < X.heap.size := by omega
    have hlr2 : w.heap.size + 2 < X.heap.size := by omega
    have hlr3 : w.heap.size + 3 < X.heap.size := by omega
    have FIN : Aside0 (∀ (w' : World) (V L : Value), Below X.heap.size X.drew w' → (Kd.int .i64).R 3 w' X.heap.size (fun _ => True) V sc.1 → (Kd.int .i64).R 3 w' X.heap.size (fun _ => True) L sc.2 →
        (((w'.setCell ⟨w.heap.size + 1 + 1, 0, none⟩ V).setCell ⟨w.heap.size + 1 + 1, 1, none⟩ L).setCell ⟨w.heap.size + 1 + 1 + 1, 0, none⟩ (.int .i64 s2.si)).heap[bw5 + 1]? = some (.deferred (some [])) ∧
        CouX ys index (sc, s2.si) css2.length w.heap.size (bw5 + 1 + 2) w .ret [] (((w'.setCell ⟨w.heap.size + 1 + 1, 0, none⟩ V).setCell ⟨w.heap.size + 1 + 1, 1, none⟩ L).setCell ⟨w.heap.size + 1 + 1 + 1, 0, none⟩ (.int .i64 s2.si))) := ⟨fun w' V L hb hV hL => by
      obtain ⟨z1, z2, z3, z4, z5⟩ := set3 (V := V) (L := L) (y := .int .i64 s2.si) ((hb.block (w.heap.size + 1 + 1) (by omega)).trans hXr) ((hb.block (w.heap.size + 1 + 1 + 1) (by omega)).trans hXa)
      have hD2 : X.heap[bw5 + 1]? = some (.deferred (some [])) := by rw [← hs5]; exact hD
      refine ⟨(z3 _ (by omega) (by omega)).trans ((hb.block _ (by omega)).trans hD2), rfl, V, L, z1, ?_, ?_, ?_, z5 _ _ (hXq.drew.trans (hb.mono (by omega))) (by omega)⟩
      · rw [hcz]; exact z2
      · rw [hcz]
        exact Kd.R_mono (Kd.R_step (Kd.R_lower (Kd.R_bound hV) (by omega)) (fun k hk _ => z3 k (by have := hk.2.1; omega) (by have := hk.2.1; omega))) (fun _ _ => trivial)
      · rw [hcz]
        exact Kd.R_mono (Kd.R_step (Kd.R_lower (Kd.R_bound hL) (by omega)) (fun k hk _ => z3 k (by have := hk.2.1; omega) (by have := hk.2.1; omega))) (fun _ _ => trivial)⟩
    have e46 : ∀ args w, (callFunc 46 args).run Try.prog w = .ok (.enter 46 args) w := enters_of Try.func46 (by kernel_rfl) rfl
    have qX := hXq
    have HCZ := Aside0.mk hcz
    clear hF hcz hcv hHold hXi BXC hXq hD
    gi_wp2
    refine wpIn_mono (Q := NoPanic _) ?_ NoPanic.imp
    gi_region_with (refine ⟨trivial, CallsIn.mono (callsIn_wide.2 (H46.out _ (by first | exact qX | exact qX.drew))) ?_⟩; rintro e w' ⟨V, L, rfl, hV, hL, hb⟩; obtain ⟨Av, cv_, rfl⟩ := Kd.R_slice hV; obtain ⟨Al, cl, rfl⟩ := Kd.R_slice hL; have kr := (hb.block (w.heap.size + 2) hlr2).trans hXr; have ka := (hb.block (w.heap.size + 3) hlr3).trans hXa; have ke := (hb.block w.heap.size hlr0).trans hXb; have g0' : w'.cell? ⟨w.heap.size, 2, none⟩ = some (.int .i64 s2.si) := EC0.out _ ke; have r0 : w'.cell? ⟨w.heap.size + 1 + 1, 0, none⟩ = some (.slice none 0 0) := R0.out _ kr; have r1 : w'.cell? ⟨w.heap.size + 1 + 1, 1, none⟩ = some (.slice none 0 0) := R1.out _ kr; have r2 : w'.frozen? ⟨w.heap.size + 1 + 1, 0, none⟩ = false := R2.out _ kr; have r3 : w'.frozen? ⟨w.heap.size + 1 + 1, 1, none⟩ = false := R3.out _ kr; have r4 : w'.cell? ⟨w.heap.size + 1 + 1 + 1, 0, none⟩ = some (.int .i64 0) := R4.out _ ka; have r5 : w'.frozen? ⟨w.heap.size + 1 + 1 + 1, 0, none⟩ = false := R5.out _ ka)
    all_goals
      refine NoPanic.normal ?_
      obtain ⟨hD9, hfz⟩ := FIN.out _ _ _ hb hV hL
      have HFZ := Aside0.mk hfz
      have HD9 := Aside0.mk hD9
      clear hD9 hfz r0 r1 r2 r3 r4 r5 g0' kr ka ke hb hV hL
      gi_wp2
      obtain ⟨_, V9, L9, z1, z2, z3, z4, z5⟩ := HFZ.out
      rw [CV.out] at z2 z3 z4
      refine ⟨by simp, .inl ⟨_, _, rfl, run_takeDeferred HD9.out, ?_⟩⟩
      refine ⟨_, results_cou rfl _ _ (w.heap.size + 1 + 1) (w.heap.size + 1 + 1 + 1) 24 3 V9 L9 cv.2 rfl rfl ((World.putObj_heap_other (by omega)).trans z1) ((World.putObj_heap_other (by omega)).trans z2), V9, L9, rfl, Kd.R_lower (R_put z3 (by omega) _) (by omega), Kd.R_lower (R_put z4 (by omega) _) (by omega), ?_⟩
      exact z5.trans (below_putObj2 _ (by omega) _)
  case stop =>
    rintro c pre y rest X hxs ⟨rfl, V, L, hXr, hXa, hV, hL, hXq⟩ hltX hD
    rw [CV.out] at hXa hV hL
    clear hxs
    have HXR := Aside0.mk hXr
    have HXA := Aside0.mk hXa
    have HV := Aside0.mk hV
    have HL2 := Aside0.mk hL
    clear hXr hXa hV hL
    gi_wp2
    refine ⟨by simp, .inl ⟨_, _, rfl, run_takeDeferred hD, ?_⟩⟩
    refine ⟨_, results_cou rfl _ _ (w.heap.size + 1 + 1) (w.heap.size + 1 + 1 + 1) 24 3 V L cv.2 rfl rfl ((World.putObj_heap_other (by omega)).trans HXR.out) ((World.putObj_heap_other (by omega)).trans HXA.out), V, L, rfl, Kd.R_lower (R_put HV.out (by omega) _) (by omega), Kd.R_lower (R_put HL2.out (by omega) _) (by omega), ?_⟩
    exact hXq.trans (below_putObj (by omega) _ hD)
end Go.Proofs.Ytpjachbmllklgaa.Rng
