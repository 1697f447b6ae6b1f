/- Several texts in one. -/
import Derived.Test.YtpjachbmllklgaaLgB
import Derived.Test.YtpjachbmllklgaaLgC
import Derived.Test.YtpjachbmllklgaaLgA
import Derived.Test.YtpjachbmllklgaaWApart
section
/- The plain law of LedgerParts. -/
namespace Go.Proofs.Ytpjachbmllklgaa.Rng
open Go.Proofs.Ytpjachbmllklgaa.Kinds
set_option linter.unusedVariables false

theorem itX_get (ys : List Ent) (j : Nat) (h : j < ys.length) : (itX ys)[j]! = (ys[j]!.1, ys[j]!.2.1) := by
  rw [getElem!_pos _ j (by simpa [itX] using h), getElem!_pos _ j h]
  simp [itX]
theorem goes_get {ys : List Ent} {si : Int} (h : goesB si (itX ys) = true) (j : Nat) (hj : j < ys.length) : ys[j]!.1 = si + 1 + j := by
  have := (goesB_iff _ _).1 h j (by simpa [itX] using hj)
  rw [itX_get ys j hj] at this
  exact this
theorem bey_eq {ys : List Ent} {si : Int} (h : goesB si (itX ys) = true) (index : Int) : beyV ys index = if (index - si).toNat < ys.length then ((index - si).toNat : Int) else -1 := by
  split
  · rename_i hk
    refine beyV_hit ys index _ hk ?_ (fun j hj => ?_)
    · rw [goes_get h _ hk]; omega
    · rw [goes_get h j (by omega)]; omega
  · rename_i hk
    refine beyV_none ys index (fun j hj => ?_)
    rw [goes_get h j hj]; omega
theorem above_eq {ys : List Ent} {si : Int} (h : goesB si (itX ys) = true) (index m : Int) : aboveX ys index m = (ys.drop (index - si).toNat).take m.toNat := by
  unfold aboveX
  rw [bey_eq h]
  by_cases hk : (index - si).toNat < ys.length
  · rw [if_pos hk]
    by_cases hm : m < 1
    · rw [if_pos (.inr hm), show m.toNat = 0 by omega, List.take_zero]
    · rw [if_neg (by omega), Int.toNat_natCast]
  · rw [if_neg hk, if_pos (.inl (by omega)), List.drop_eq_nil_of_le (by omega), List.take_nil]
theorem above_length {ys : List Ent} {si : Int} (h : goesB si (itX ys) = true) (index m : Int) : (aboveX ys index m).length = min m.toNat (ys.length - (index - si).toNat) := by
  rw [above_eq h]; simp
theorem above_get {ys : List Ent} {si : Int} (h : goesB si (itX ys) = true) (index m : Int) (i : Nat) (hi : i < (aboveX ys index m).length) : (aboveX ys index m)[i]! = ys[(index - si).toNat + i]! := by
  have hl := above_length h index m
  rw [getElem!_pos _ i hi, getElem!_pos _ _ (by omega)]
  simp only [above_eq h]
  rw [List.getElem_take, List.getElem_drop]
theorem above_num {ys : List Ent} {si : Int} (h : goesB si (itX ys) = true) (index m : Int) (i : Nat) (hi : i < (aboveX ys index m).length) : ((aboveX ys index m)[i]!).1 = si + 1 + (index - si).toNat + i := by
  have hl := above_length h index m
  rw [above_get h index m i hi, goes_get h _ (by omega)]
  omega
theorem above_term {ys : List Ent} {si : Int} (h : goesB si (itX ys) = true) (st index m : Int) (i : Nat) (hi : i < (aboveX ys index m).length) : termV si st (itX ys) ((aboveX ys index m)[i]!).1 = (((aboveX ys index m)[i]!).2.1, true) := by
  have hl := above_length h index m
  have hn := above_num h index m i hi
  unfold termV
  rw [hn, if_neg (by omega), if_pos (by rw [show (itX ys).length = ys.length by simp [itX]]; omega)]
  rw [show (si + 1 + ((index - si).toNat : Int) + (i : Int) - si - 1).toNat = (index - si).toNat + i by omega, itX_get ys _ (by omega), above_get h index m i hi]
/-- The number up to which the first part goes. -/
def atV (a : List Ent) (index : Int) : Int := if a.length = 0 then index else (a[a.length - 1]!).1
theorem parts_eq {ys : List Ent} {si : Int} (h : goesB si (itX ys) = true) (index one two : Int) (h1 : 0 ≤ one) (h2 : 0 ≤ two) : aboveX ys index one ++ aboveX ys (atV (aboveX ys index one) index) two = aboveX ys index (one + two) := by
  have hl := above_length h index one
  unfold atV
  by_cases h0 : (aboveX ys index one).length = 0
  · rw [if_pos h0, List.eq_nil_of_length_eq_zero h0, List.nil_append, above_eq h, above_eq h]
    by_cases ho : one = 0
    · rw [ho, Int.zero_add]
    · rw [List.drop_eq_nil_of_le (by omega)]
      simp
  · rw [if_neg h0, above_num h index one _ (by omega), above_eq h, above_eq h, above_eq h]
    rw [hl] at h0
    rw [← above_eq h, hl]
    have e : (si + 1 + ((index - si).toNat : Int) + ((min one.toNat (ys.length - (index - si).toNat) - 1 : Nat) : Int) - si).toNat = (index - si).toNat + min one.toNat (ys.length - (index - si).toNat) := by omega
    rw [e, ← List.drop_drop, above_eq h, show (one + two).toNat = one.toNat + two.toNat by omega, List.take_add]
    congr 1
    by_cases hle : one.toNat ≤ ys.length - (index - si).toNat
    · rw [Nat.min_eq_left hle]
    · rw [Nat.min_eq_right (by omega), List.drop_eq_nil_of_le (by simp), List.drop_eq_nil_of_le (by simp; omega)]
end Go.Proofs.Ytpjachbmllklgaa.Rng
end
section
/- LedgerParts, walked. -/
namespace Go.Proofs.Ytpjachbmllklgaa.Rng
open Go.RowKit Go.Proofs.YtpjachbmllklgaaW.PrintWords Go.Proofs.Ytpjachbmllklgaa.Kinds
set_option linter.unusedVariables false
set_option linter.unusedSimpArgs false
attribute [local go_sem] Oper.semAt_some

theorem sndX_goes (s : Sv) (xs : List Ent) : goesB (if checkB s.si (itX xs) = true then s.si else 0) (itX (sndX s xs)) = true := by
  unfold sndX
  cases h : checkB s.si (itX xs) with
  | true =>
    simp only [checkB, Bool.and_eq_true] at h
    exact h.2
  | false => rfl
theorem sound_six {W : World} {s : Sv} {b off : Nat} {css : List (List Value)} {xs : List Ent} (h : LX W s.A b off css xs) : (s.sound css).si = (if checkB s.si (itX xs) = true then s.si else 0) ∧ its (soundE s css) = itX (sndX s xs) := by
  refine ⟨?_, h.sound.its_eq⟩
  unfold Sv.sound
  rw [h.its_eq]
  split <;> rfl
theorem aboveX_mem {ys : List Ent} {index m : Int} {x : Ent} (h : x ∈ aboveX ys index m) : x ∈ ys := by
  unfold aboveX at h
  split at h
  · simp at h
  · exact List.mem_of_mem_drop (List.mem_of_mem_take h)
theorem sndX_mem {s : Sv} {xs : List Ent} {x : Ent} (h : x ∈ sndX s xs) : x ∈ xs := by
  unfold sndX at h
  split at h
  · exact h
  · simp at h
/-- A row of the call's own, read. -/
theorem lx_of_R {w : World} {base : Nat} {ok : Nat → Prop} {v : Value} {xs : List Ent} (h : kEnt.R 59 w base ok v xs) (hs : xs.length ≤ 1000000) (hc : ∀ x ∈ xs, x.2.2.2.2.1.length < 17592186044416 ∧ x.2.2.2.2.2.length < 17592186044416)
    (hi : ∀ x ∈ xs, -9223372036854775808 ≤ x.1 ∧ x.1 ≤ 9223372036854775807) : ∃ (A : Option Addr) (c b off : Nat) (css : List (List Value)), v = .slice A xs.length c ∧ xs.length ≤ c ∧ LX w A b off css xs := by
  obtain ⟨A, c, hv, hcap, hC⟩ := Kd.R_reads h
  obtain ⟨b, off, css, hL⟩ := lx_of_C hC rfl hs hc hi
  exact ⟨A, c, b, off, css, hv, hcap, hL⟩
/-- The cells of entries, to be appended. -/
theorem LX.raw {w : World} {A : Option Addr} {b off : Nat} {css : List (List Value)} {xs : List Ent} (h : LX w A b off css xs) : ReadsRow ((Kd.raw 43).K w) 43 w A css.length css := by
  refine ⟨rfl, by have := h.small; omega, fun h0 => ⟨_, h.A h0, fun j p hj => ?_⟩⟩
  have hlt := (List.getElem?_eq_some_iff.1 hj).1
  have hp : css[j]! = p := by
    rw [getElem!_pos css j hlt]
    exact (List.getElem?_eq_some_iff.1 hj).2
  have hE := (h.isE j hlt).1
  have hr := h.row j hlt
  rw [hp] at hE hr
  refine ⟨p, hE.len, ⟨rfl, hE.len, hE.one⟩, fun i u hi => ?_⟩
  rw [Addr.add_mid, ← Nat.add_assoc]
  exact hr i u hi
theorem lx_of_raw {w : World} {base : Nat} {ok : Nat → Prop} {v : Value} {css : List (List Value)} {xs : List Ent} (h : (Kd.raw 43).R 59 w base ok v css) (hl : css.length = xs.length) (hK : ∀ j, j < css.length → kEnt.K w xs[j]! css[j]!) (hs : xs.length ≤ 1000000) (hc : ∀ x ∈ xs, x.2.2.2.2.1.length < 17592186044416 ∧ x.2.2.2.2.2.length < 17592186044416)
    (hi : ∀ x ∈ xs, -9223372036854775808 ≤ x.1 ∧ x.1 ≤ 9223372036854775807) : ∃ (A : Option Addr) (c b off : Nat), v = .slice A xs.length c ∧ LX w A b off css xs := by
  obtain ⟨A, c, hv, hcap, hC⟩ := Kd.R_reads h
  rw [hl] at hv
  by_cases h0 : 0 < css.length
  · obtain ⟨ad, rfl, hcell⟩ := hC.2.2 h0
    have key : ∀ j, j < css.length → ∀ i u, css[j]![i]? = some u → w.cell? (ad.add (j * 43 + i)) = some u := fun j hj => by
      obtain ⟨c', _, hc1, hc2⟩ := hcell j css[j]! (by rw [getElem!_pos _ j hj]; exact List.getElem?_eq_getElem hj)
      have : c' = css[j]! := hc1.1
      subst this
      exact hc2
    obtain ⟨b, off, spot⟩ := ad
    have hc0 := key 0 h0 0 _ (ent_cells (hK 0 h0)).1.i0
    have hspot : spot = none := by simpa [Addr.add] using World.cell?_spot hc0
    subst hspot
    refine ⟨some ⟨b, off, none⟩, c, b, off, hv, hl, fun _ => rfl, fun j hj i u hiu => ?_, hK, hc, hi, .inl ?_, by omega⟩
    · have := key j hj i u hiu
      rw [Addr.add_mid] at this
      rw [show off + j * 43 + i = off + (j * 43 + i) by omega]
      exact this
    · have := block_lt_of_cell hc0
      simpa [Addr.add] using this
  · have h1 : css = [] := by simpa using h0
    subst h1
    exact ⟨A, c, 0, 0, hv, hl, fun g => by simp at g, fun j hj => by simp at hj, fun j hj => by simp at hj, hc, hi, .inr rfl, by simp⟩
end Go.Proofs.Ytpjachbmllklgaa.Rng
end
section
/- The reference's Above: what it picks, in plain Lean. -/
namespace Go.Proofs.Ytpjachbmllklgaa.Rng
open Go.Proofs.Ytpjachbmllklgaa.Kinds
set_option linter.unusedVariables false

/-- What is picked of the first k. -/
def rabX (ys : List Ent) (index most : Int) : Nat → List Ent
  | 0 => []
  | k + 1 => if ys[k]!.1 > index ∧ ((rabX ys index most k).length : Int) < most then rabX ys index most k ++ [ys[k]!] else rabX ys index most k
theorem rabX_length (ys : List Ent) (index most : Int) : ∀ k, (rabX ys index most k).length ≤ k
  | 0 => Nat.le_refl _
  | k + 1 => by
    have := rabX_length ys index most k
    unfold rabX
    split
    · simp; omega
    · omega
theorem rabX_eq {ys : List Ent} {si : Int} (h : goesB si (itX ys) = true) (index most : Int) : ∀ k, k ≤ ys.length → rabX ys index most k = ((ys.take k).drop (index - si).toNat).take most.toNat
  | 0, _ => by simp [rabX]
  | k + 1, hk => by
    have hg := goes_get h k (by omega)
    have ih := rabX_eq h index most k (by omega)
    have hlen : (rabX ys index most k).length = min most.toNat (k - (index - si).toNat) := by
      rw [ih]; simp; omega
    have e1 : ys.take (k + 1) = ys.take k ++ [ys[k]!] := by
      rw [List.take_add_one, List.getElem?_eq_getElem (by omega), getElem!_pos ys k (by omega)]
      rfl
    unfold rabX
    rw [hlen, hg, e1]
    by_cases h1 : si + 1 + (k : Int) > index
    · have hd : (index - si).toNat ≤ k := by omega
      rw [List.drop_append_of_le_length (by simp; omega)]
      by_cases h2 : ((min most.toNat (k - (index - si).toNat) : Nat) : Int) < most
      · rw [if_pos ⟨h1, h2⟩, ih]
        have h3 : ((ys.take k).drop (index - si).toNat).length < most.toNat := by simp; omega
        generalize (ys.take k).drop (index - si).toNat = D at h3 ⊢
        rw [List.take_of_length_le (l := D) (by omega), List.take_of_length_le (by simp; omega)]
      · rw [if_neg (by omega), ih]
        rw [List.take_append_of_le_length (by simp; omega)]
    · rw [if_neg (by omega), ih, List.drop_eq_nil_of_le (by simp; omega), List.drop_eq_nil_of_le (by simp; omega)]
theorem rab_above {ys : List Ent} {si : Int} (h : goesB si (itX ys) = true) (index most : Int) : rabX ys index most ys.length = aboveX ys index most := by
  rw [rabX_eq h index most _ (Nat.le_refl _), above_eq h, List.take_of_length_le (Nat.le_refl _)]
end Go.Proofs.Ytpjachbmllklgaa.Rng
end
section
/- The reference's Above. -/
namespace Go.Proofs.Ytpjachbmllklgaa.Rng
open Go.RowKit Go.Proofs.YtpjachbmllklgaaW.PrintWords Go.Proofs.Ytpjachbmllklgaa.Kinds
set_option linter.unusedVariables false
set_option linter.unusedSimpArgs false
attribute [local go_sem] Oper.semAt_some
attribute [local go_sem] fold_zip

set_option maxHeartbeats 1000000 in
set_option maxRecDepth 100000 in
theorem rabove_c (s : Sv) (b off : Nat) (css : List (List Value)) (xs : List Ent) (w : World) (h : LX w s.A b off css xs) (hn : s.n = css.length) (index most : Int) :
    Calls Try.prog 27 #[.agg s.cells, .int .i64 index, .int .i64 most] w fun e w' => ∃ v, e = .returned v ∧ kEnt.R 59 w' w.heap.size (fun _ => True) v (aboveX (sndX s xs) index most) ∧ Below w.heap.size w w' := by
  have e41 : ∀ args w, (callFunc 41 args).run Try.prog w = .ok (.enter 41 args) w := enters_of Try.func41 (by kernel_rfl) rfl
  have e44 : ∀ args w, (callFunc 44 args).run Try.prog w = .ok (.enter 44 args) w := enters_of Try.func44 (by kernel_rfl) rfl
  have hi30 : ∀ cells : Array Value, cells.size = 9 → (Try.prog.info? 30).map (·.size) = some cells.size := fun c hc => by rw [hc]; exact size30
  have hgo := sndX_goes s xs
  rw [← rab_above hgo]
  generalize hrv : rabX (sndX s xs) index most (sndX s xs).length = rv
  have RV := Aside0.mk hrv
  clear hrv
  have H := Aside0.mk h
  have HN0 := Aside0.mk hn
  clear h hn hgo
  rw [cells_eq]
  go_enter Try.func27, Try.ntmps27
  go_wp2_with fail
  rw [← cells_eq]
  have hb0 : Below w.heap.size w (w.alloc (.cells s.cells 30)) := (Below.refl _ w).alloc (Nat.le_refl _) _
  have hs0 : (w.alloc (.cells s.cells 30)).heap.size = w.heap.size + 1 := by simp
  have hbox := blk_new w (.cells s.cells 30)
  generalize w.alloc (.cells s.cells 30) = W0 at hb0 hs0 hbox ⊢
  have hL0 := H.out.below hb0
  have CA := Aside0.mk (asked_c s b off css W0 (hL0.lg HN0.out))
  go_wp2_with (refine wpList_load_row rfl 30 (.tmp 3) rfl w.heap.size rfl 30 _ (0, 0) _ hbox Try.underlying30 rfl (hi30 _ rfl) ?_)
  refine CA.out.mono ?_
  rintro e w2 ⟨rfl, hb2⟩
  have hn2 : (s.sound css).n = (soundE s css).length := ((hL0.lg HN0.out).sound).n
  have hbox2 := (hb2.block w.heap.size (by omega)).trans hbox
  have hsz2 : w.heap.size < w2.heap.size := by have := hb2.size; omega
  have q2 : Below w.heap.size w w2 := hb0.trans (hb2.mono hb0.size)
  have HL : Aside0 (∀ W, Below w.heap.size w W → LX W (s.sound css).A b off (soundE s css) (sndX s xs)) := ⟨fun W hW => (H.out.below hW).sound⟩
  have hly : (soundE s css).length = (sndX s xs).length := (HL.out w (Below.refl _ _)).len
  have hsm : (soundE s css).length ≤ 1000000 := (HL.out w (Below.refl _ _)).small
  generalize s.sound css = s2 at *
  generalize soundE s css = css2 at *
  generalize sndX s xs = ys at *
  have LY := Aside0.mk hly
  clear hL0 H HN0 CA hb2 hb0 hbox hs0 hly
  have hcc := cells_eq s2
  have CCe := Aside0.mk hcc
  rw [hcc]
  go_wp2_with (refine wpList_store_box rfl 30 (.tmp 3) (.tmp 10) rfl w.heap.size _ _ 30 rfl rfl hbox2 (hi30 _ rfl) rfl (by simp [Value.oneCell']) ?_)
  intro W3 hg3 ho3 hb3 hs3
  have q3 : Below w.heap.size w W3 := q2.trans hb3
  have K3 := Aside0.mk hg3
  have N2 := Aside0.mk hn2
  try rw [hn2] at K3
  clear hcc CCe hg3 ho3 hb3 hs3 q2 hbox2 hsz2 hn2
  generalize hne : css2.length = n at *
  have NE := Aside0.mk hne
  clear hne
  go_wp2_with fail
  go_loopg [7, 8] n (fun gg s7 s8 wr => ∃ kk : Nat, kk ≤ n ∧ n - kk ≤ gg ∧ s8 = .int .i64 kk ∧ Aside (Below w.heap.size w wr) ∧ Aside (wr.heap[w.heap.size]? = some (.cells #[.int .i64 s2.t, .int .i64 s2.v, .int .i64 s2.si, .int .i64 s2.st, .slice s2.Va s2.Vn s2.Vc, .slice s2.La s2.Ln s2.Lc, .string s2.d, .slice s2.A n s2.cap, .slice s2.Ga s2.Gn s2.Gc] 30 (0, 0))) ∧ Aside (kEnt.R 59 wr w.heap.size (fun k => k ≠ w.heap.size) s7 (rabX ys index most kk)))
  case atStart => exact ⟨0, by omega, by omega, rfl, q3, K3.out, Kd.R_nil _ _ _ _ _⟩
  case round =>
    obtain ⟨kk, hk, hgg, rfl, B, K, G⟩ := hrel
    have c7 : wr.cell? ⟨w.heap.size, 7, none⟩ = some (.slice s2.A n s2.cap) := by simp [World.cell?, K.out]
    by_cases hlt : kk < n
    · have hltz : (kk : Int) < (n : Int) := by omega
      have hL := HL.out wr B.out
      have hk1 : kk < css2.length := by rw [NE.out]; exact hlt
      have hA := hL.A (by omega)
      have hrg := hL.row kk hk1
      obtain ⟨hE, hit, _⟩ := hL.isE kk hk1
      have hKk := hL.K kk hk1
      have hcou := hL.cou _ (hL.mem kk hk1)
      have hmk : rabX ys index most (kk + 1) = if ys[kk]!.1 > index ∧ ((rabX ys index most kk).length : Int) < most then rabX ys index most kk ++ [ys[kk]!] else rabX ys index most kk := rfl
      have hrl := rabX_length ys index most kk
      have MK := Aside0.mk hmk
      clear hL hmk
      generalize ys[kk]! = xk at *
      generalize css2[kk]! = cs at hrg hE hit hKk
      generalize rabX ys index most kk = os at *
      have c0 : wr.cell? ⟨b, off + kk * 43, none⟩ = some (.int .i64 xk.1) := by
        have := hrg 0 _ hE.i0
        rw [hit] at this
        simpa using this
      obtain ⟨A7, c7v, hv7⟩ := Kd.R_slice G.out
      subst hv7
      generalize hol : os.length = ol at *
      have OL := Aside0.mk hol
      rw [hA] at c7
      clear hol hit hA
      by_cases g1 : xk.1 > index
      · by_cases g2 : (ol : Int) < most
        · have mk := MK.out
          rw [if_pos ⟨g1, g2⟩] at mk
          have MK2 := Aside0.mk mk
          have hi59 : (Try.prog.info? 59).map (·.size) = some cs.length := by rw [hE.len]; exact size59
          have hl43 : cs.length = 43 := hE.len
          have hsz := B.out.size
          have HB := Aside0.mk (ownEntry_c xk cs wr hKk hcou.1 hcou.2)
          clear hE hKk MK mk
          go_wp2_with (refine wpList_load_mid rfl 59 (.tmp 36) rfl b (off + kk * 43) rfl cs _ hrg Try.underlying59 rfl hi59 ?_)
          refine HB.out.mono ?_
          rintro e w4 ⟨cs', rfl, hM, hb4⟩
          have hlw : w.heap.size < wr.heap.size := (Array.getElem?_eq_some_iff.1 K.out).1
          have B4 : Below w.heap.size w w4 := B.out.trans (hb4.mono hsz)
          have K4 := Aside0.mk ((hb4.block w.heap.size hlw).trans K.out)
          have hvb : ∀ k, (Value.slice A7 ol c7v).ownBlock = some k → k < wr.heap.size := fun k hk => by
            obtain ⟨inner, ho⟩ := Kd.R_own G.out
            exact own_lt ho k hk
          have HR : Aside0 (kEnt.R 59 w4 w.heap.size (fun k => k ≠ w.heap.size) (.slice A7 ol c7v) os) := ⟨Kd.R_below G.out hb4⟩
          have hcl : cs'.length = 43 := kEnt.K_len (kEnt.K_of_M hM)
          have HM : Aside0 (kEnt.M w4 w.heap.size (fun k => wr.heap.size ≤ k) xk cs') := ⟨kEnt.M_lower (by omega) (kEnt.M_mono (ok' := fun k => wr.heap.size ≤ k) (fun k hk => by have := hk.2.1; omega) (kEnt.M_bound hM))⟩
          have HVB := Aside0.mk hvb
          have hsz4 := hb4.size
          clear hvb hM hb4 G c7 c0 hrg
          go_wp2_with (at_builtin; refine Kd.R_append kEnt (w0 := w) w.heap.size rfl (.tmp 32) (.tmp 39) 27 59 z59 168 rfl Try.underlying27 info59 z59_size (by decide) (by omega) (.slice A7 ol c7v) os xk cs' (fun k => k ≠ w.heap.size) (fun k => wr.heap.size ≤ k) rfl rfl HM.out ?okp (fun k hk => by omega) HR.out B4 B4.size ?aL ?_)
          case okp => exact fun k hk => ⟨by omega, fun e => by have := HVB.out k e.symm; omega⟩
          case aL => rw [OL.out]; omega
          intro v1 w1 ho hb hg hat
          have hb' : Below w.heap.size w w1 := hb
          have hk1 : w1.heap[w.heap.size]? = w4.heap[w.heap.size]? := hg.block _ (by omega) (fun e => HR.out.1 _ e.symm rfl)
          have K1 := Aside0.mk (hk1.trans K4.out)
          rw [← MK2.out] at ho
          have HO := Aside0.mk ho
          clear ho hg hat hb hk1
          go_wp2_with fail
          go_roundg (n - (kk + 1))
          case measure => omega
          case rel => exact ⟨kk + 1, by omega, by omega, by go_num, hb', K1.out, HO.out⟩
        · have mk := MK.out
          rw [if_neg (by omega)] at mk
          have MK2 := Aside0.mk mk
          clear MK mk hrg hE hKk
          go_wp2_with fail
          go_roundg (n - (kk + 1))
          case measure => omega
          case rel => exact ⟨kk + 1, by omega, by omega, by go_num, B.out, K.out, (by rw [MK2.out]; exact G.out)⟩
      · have mk := MK.out
        rw [if_neg (by omega)] at mk
        have MK2 := Aside0.mk mk
        clear MK mk hrg hE hKk
        go_wp2_with fail
        go_roundg (n - (kk + 1))
        case measure => omega
        case rel => exact ⟨kk + 1, by omega, by omega, by go_num, B.out, K.out, (by rw [MK2.out]; exact G.out)⟩
    · have hltz : ¬ (kk : Int) < (n : Int) := by omega
      obtain rfl : kk = n := by omega
      go_wp2_with fail
      go_ret
      have hr : rabX ys index most kk = rv := by rw [← RV.out, ← LY.out]
      have G2 := G.out
      rw [hr] at G2
      exact ⟨_, rfl, Kd.R_mono G2 (fun _ _ => trivial), B.out⟩
end Go.Proofs.Ytpjachbmllklgaa.Rng
end
section
/- The reference's Behind. -/
namespace Go.Proofs.Ytpjachbmllklgaa.Rng
open Go.RowKit Go.Proofs.YtpjachbmllklgaaW.PrintWords Go.Proofs.Ytpjachbmllklgaa.Kinds
set_option linter.unusedVariables false
set_option linter.unusedSimpArgs false
attribute [local go_sem] Oper.semAt_some

set_option maxHeartbeats 1000000 in
set_option maxRecDepth 100000 in
theorem rbehind_c (s : Sv) (b off : Nat) (css : List (List Value)) (w : World) (h : Lg w s b off css) (index term : Int) :
    Calls Try.prog 31 #[.agg s.cells, .int .i64 index, .int .i64 term] w fun e w' => e = .returned (.bool (behV (lastV (s.sound css) (soundE s css)) index term)) ∧ Below w.heap.size w w' := by
  have e12 : ∀ args w, (callFunc 12 args).run Try.prog w = .ok (.enter 12 args) w := enters_of Try.func12 (by kernel_rfl) rfl
  obtain ⟨⟨n1, t1⟩, hlv⟩ : ∃ x, lastV (s.sound css) (soundE s css) = x := ⟨_, rfl⟩
  have C : Aside0 (∀ W, Below w.heap.size w W → Calls Try.prog 12 #[.agg s.cells] W fun e w' => e = .returned (.tuple #[.int .i64 n1, .int .i64 t1]) ∧ Below W.heap.size W w') := ⟨fun W hW => by have := rlast_c s b off css W (h.below hW); rw [hlv] at this; exact this⟩
  rw [hlv]
  clear h hlv
  generalize hrv : behV (n1, t1) index term = rv
  have RV := Aside0.mk hrv
  clear hrv
  rw [cells_eq]
  go_enter Try.func31, Try.ntmps31
  go_wp2_with fail
  rw [← cells_eq]
  have q0 : Below w.heap.size w (w.alloc (.cells s.cells 30)) := (Below.refl _ w).alloc (Nat.le_refl _) _
  generalize w.alloc (.cells s.cells 30) = W0 at q0 ⊢
  refine (C.out W0 q0).mono ?_
  rintro e w2 ⟨rfl, hb2⟩
  have q2 : Below w.heap.size w w2 := q0.trans (hb2.mono q0.size)
  clear C q0 hb2
  by_cases g1 : t1 < term
  · obtain rfl : true = rv := by rw [← RV.out]; simp [behV, g1]
    go_wp2
    go_ret
    exact ⟨rfl, q2⟩
  · by_cases g2 : t1 = term
    · by_cases g3 : n1 < index
      · obtain rfl : true = rv := by rw [← RV.out]; simp [behV, g2, g3]
        subst g2
        go_wp2
        go_ret
        exact ⟨rfl, q2⟩
      · obtain rfl : false = rv := by rw [← RV.out]; simp [behV, g2, g3]
        subst g2
        have hd : decide (n1 < index) = false := decide_eq_false g3
        have HD := Aside0.mk hd
        clear hd
        go_wp2
        go_ret
        refine ⟨?_, q2⟩
        show Ending.returned (Value.bool (decide (n1 < index))) = _
        rw [HD.out]
    · obtain rfl : false = rv := by rw [← RV.out]; simp [behV, g1, g2]
      have hd : decide (t1 < term) = false := decide_eq_false g1
      have HD := Aside0.mk hd
      clear hd
      go_wp2
      go_ret
      refine ⟨?_, q2⟩
      show Ending.returned (Value.bool (decide (t1 < term))) = _
      rw [HD.out]
end Go.Proofs.Ytpjachbmllklgaa.Rng
end
section
/- over: what is written over entries of one's own. -/
namespace Go.Proofs.Ytpjachbmllklgaa.Rng
open Go.RowKit Go.Proofs.YtpjachbmllklgaaW.PrintWords Go.Proofs.Ytpjachbmllklgaa.Kinds
set_option linter.unusedVariables false
set_option linter.unusedSimpArgs false
attribute [local go_sem] Oper.semAt_some

/-- Entries whose terms and voters may be written over. -/
structure OV (base bl off n : Nat) (W : World) : Prop where
  T : ∀ j, j < n → W.there bl (off + j * 43 + 1) 1
  V : ∀ j, j < n → ∃ (B : Option Addr) (m d : Nat), W.cell? ⟨bl, off + j * 43 + 41, none⟩ = some (.slice B m d) ∧ m ≤ 1000000000 ∧ (0 < m → ∃ p o, B = some ⟨p, o, none⟩ ∧ base ≤ p ∧ p ≠ bl ∧ W.there p o m)
theorem there_setCell {W : World} {b o n : Nat} (h : W.there b o n) (p : Addr) (hp : p.spot = none) (u : Value) : (W.setCell p u).there b o n := fun j hj => by
  obtain ⟨h1, h2⟩ := h j hj
  obtain ⟨v, hv⟩ := Option.isSome_iff_exists.1 h1
  obtain ⟨v', hv'⟩ := cell?_setCell_some (p := p) (x := u) hv
  exact ⟨by rw [hv']; rfl, by rw [World.frozen?_setCell]; exact h2⟩
theorem OV.setTerm {base bl off n : Nat} {W : World} (h : OV base bl off n W) (j : Nat) (u : Value) : OV base bl off n (W.setCell ⟨bl, off + j * 43 + 1, none⟩ u) := by
  refine ⟨fun k hk => there_setCell (h.T k hk) _ rfl u, fun k hk => ?_⟩
  obtain ⟨B, m, d, h1, h2, h3⟩ := h.V k hk
  refine ⟨B, m, d, ?_, h2, fun g => ?_⟩
  · have hne : (⟨bl, off + j * 43 + 1, none⟩ : Addr) ≠ ⟨bl, off + k * 43 + 41, none⟩ := fun e => by
      injection e with e1 e2 e3
      omega
    rw [World.cell?_setCell_other (h := hne)]
    exact h1
  · obtain ⟨p, o, k1, k2, k3, k4⟩ := h3 g
    exact ⟨p, o, k1, k2, k3, there_setCell k4 _ rfl u⟩
theorem OV.setVoter {base bl off n : Nat} {W : World} (h : OV base bl off n W) (p o : Nat) (hp : p ≠ bl) (u : Value) : OV base bl off n (W.setCell ⟨p, o, none⟩ u) := by
  refine ⟨fun k hk => there_setCell (h.T k hk) _ rfl u, fun k hk => ?_⟩
  obtain ⟨B, m, d, h1, h2, h3⟩ := h.V k hk
  refine ⟨B, m, d, ?_, h2, fun g => ?_⟩
  · rw [World.cell?_setCell_far _ _ _ _ (by simpa using hp)]
    exact h1
  · obtain ⟨p, o, k1, k2, k3, k4⟩ := h3 g
    exact ⟨p, o, k1, k2, k3, there_setCell k4 _ rfl u⟩
theorem there_one {W : World} {b o : Nat} (h : W.there b o 1) : ∃ u, W.cell? ⟨b, o, none⟩ = some u ∧ W.frozen? ⟨b, o, none⟩ = false := by
  obtain ⟨h1, h2⟩ := h 0 (by omega)
  obtain ⟨v, hv⟩ := Option.isSome_iff_exists.1 h1
  exact ⟨v, hv, h2⟩
theorem there_at {W : World} {b o n : Nat} (h : W.there b o n) (j : Nat) (hj : j < n) : ∃ u, W.cell? ⟨b, o + j, none⟩ = some u ∧ W.frozen? ⟨b, o + j, none⟩ = false := by
  obtain ⟨h1, h2⟩ := h j hj
  obtain ⟨v, hv⟩ := Option.isSome_iff_exists.1 h1
  exact ⟨v, hv, h2⟩

set_option maxHeartbeats 1000000 in
set_option maxRecDepth 100000 in
theorem over_c (base bl off n c : Nat) (A : Option Addr) (w : World) (hA : 0 < n → A = some ⟨bl, off, none⟩) (hb : 0 < n → base ≤ bl) (hn : n ≤ 1000000) (h : OV base bl off n w) :
    Calls Try.prog 28 #[.slice A n c] w fun e w' => e = .returned (.tuple #[]) ∧ Below base w w' := by
  have H := Aside0.mk h
  clear h
  go_enter Try.func28, Try.ntmps28
  go_wp2_with fail
  go_loopg [2] n (fun gg s2 wr => ∃ kk : Nat, kk ≤ n ∧ n - kk ≤ gg ∧ s2 = .int .i64 kk ∧ Aside (Below base w wr) ∧ Aside (OV base bl off n wr))
  case atStart => exact ⟨0, by omega, by omega, rfl, Below.refl _ _, H.out⟩
  case round =>
    obtain ⟨kk, hk, hgg, rfl, B, V⟩ := hrel
    by_cases hlt : kk < n
    · have hltz : (kk : Int) < (n : Int) := by omega
      obtain rfl := hA (by omega)
      have hbb := hb (by omega)
      obtain ⟨u1, c1, f1⟩ := there_one (V.out.T kk hlt)
      clear hA hb
      go_wp2_with fail
      have V1 := V.out.setTerm kk (.int .i64 77)
      have B1 : Below base w (wr.setCell ⟨bl, off + kk * 43 + 1, none⟩ (.int .i64 77)) := B.out.setCell (p := ⟨bl, off + kk * 43 + 1, none⟩) hbb _
      obtain ⟨Bv, m, d, c41, hm, hv⟩ := V1.V kk hlt
      obtain ⟨p, o, hp⟩ : ∃ p o, 0 < m → Bv = some ⟨p, o, none⟩ ∧ base ≤ p ∧ p ≠ bl ∧ (wr.setCell ⟨bl, off + kk * 43 + 1, none⟩ (.int .i64 77)).there p o m := by
        by_cases h : 0 < m
        · obtain ⟨p, o, h4⟩ := hv h
          exact ⟨p, o, fun _ => h4⟩
        · exact ⟨0, 0, fun g => absurd g h⟩
      generalize (wr.setCell ⟨bl, off + kk * 43 + 1, none⟩ (.int .i64 77)) = wx at *
      have V2 := Aside0.mk V1
      have B2 := Aside0.mk B1
      have HP := Aside0.mk hp
      clear V1 B1 hp hv V B f1 c1
      go_loopg [3] m (fun gg s3 wz => ∃ k : Nat, k ≤ m ∧ m - k ≤ gg ∧ s3 = .int .i64 k ∧ Aside (Below base w wz) ∧ Aside (OV base bl off n wz) ∧ Aside (wz.cell? ⟨bl, off + kk * 43 + 41, none⟩ = some (.slice Bv m d)) ∧ Aside (0 < m → wz.there p o m))
      case atStart => exact ⟨0, by omega, by omega, rfl, B2.out, V2.out, c41, fun g => (HP.out g).2.2.2⟩
      case round =>
        obtain ⟨k, hk2, hgg2, rfl, B3, V3, C3, T3⟩ := hrel
        have c3 := C3.out
        by_cases hl2 : k < m
        · have hltz2 : (k : Int) < (m : Int) := by omega
          obtain ⟨rfl, hpb, hpn, _⟩ := HP.out (by omega)
          obtain ⟨u2, c2, f2⟩ := there_at (T3.out (by omega)) k hl2
          clear C3
          go_wp2_with fail
          go_roundg (m - (k + 1))
          case measure => omega
          case rel =>
            refine ⟨k + 1, by omega, by omega, by go_num, B3.out.setCell (p := ⟨p, o + k, none⟩) hpb _, V3.out.setVoter p (o + k) hpn _, ?_, fun g => there_setCell (T3.out g) _ rfl _⟩
            exact (World.cell?_setCell_far _ _ _ _ (by simpa using hpn)).trans c3
        · have hltz2 : ¬ (k : Int) < (m : Int) := by omega
          clear hgg2
          go_wp2_with fail
          go_roundg (n - (kk + 1))
          case measure => omega
          case rel => exact ⟨kk + 1, by omega, by omega, by go_num, B3.out, V3.out⟩
    · have hltz : ¬ (kk : Int) < (n : Int) := by omega
      go_wp2_with fail
      all_goals first | go_end0 | ((try simp only [Exit.inBlock, Exit.then]); refine bodyPost_ret (results_none rfl _ _ _) rfl ?_)
      exact ⟨rfl, B.out⟩
end Go.Proofs.Ytpjachbmllklgaa.Rng
end
section
/- Entries of one's own: what may be written over. -/
namespace Go.Proofs.Ytpjachbmllklgaa.Rng
open Go.RowKit Go.Proofs.YtpjachbmllklgaaW.PrintWords Go.Proofs.Ytpjachbmllklgaa.Kinds
set_option linter.unusedVariables false
set_option linter.unusedSimpArgs false

/-- A row of numbers of one's own. -/
theorem own_ints {w : World} {base : Nat} {ok : Nat → Prop} {v : Value} {xs : List Int} (h : (Kd.int .i64).R 3 w base ok v xs) : ∃ (B : Option Addr) (d : Nat), v = .slice B xs.length d ∧ (0 < xs.length → ∃ p, B = some ⟨p, 0, none⟩ ∧ base ≤ p ∧ ok p ∧ w.there p 0 xs.length) := by
  obtain ⟨h0, inner, ⟨hl, ho⟩, hr⟩ := h
  rcases ho with ⟨rfl, hn⟩ | ⟨g, cap, cur, rfl, hg, hh, hc, _, hs, _⟩
  · exact ⟨none, 0, by rw [hn], fun g => by omega⟩
  · refine ⟨_, _, rfl, fun _ => ⟨g, rfl, hg, h0 g rfl, fun j hj => ?_⟩⟩
    have hsz : j < cur.size := by rw [hs]; show j < cap * 1; omega
    constructor
    · simp [World.cell?, hh, hsz]
    · simp [World.frozen?, hh]
/-- A made entry: its voters. -/
theorem ent_M_voters {w : World} {base : Nat} {ok : Nat → Prop} {x : Ent} {cs : List Value} (h : kEnt.M w base ok x cs) : ∃ V, cs[41]? = some V ∧ (Kd.int .i64).R 3 w base ok V x.2.2.2.2.1 := by
  obtain ⟨_, _, rfl, h1, _, _, rfl, h2, _, _, rfl, h3, cc, cu, rfl, hc, _, _, rfl, ⟨V, rfl, hV⟩, ⟨L, rfl, hL⟩⟩ := h
  have hcl : cc.length = 38 := kCmd.K_len (kCmd.K_of_M hc)
  obtain rfl := h1
  obtain rfl := h2
  obtain rfl := h3
  refine ⟨V, ?_, hV⟩
  simp [List.getElem?_append, hcl]
theorem ov_of_R {w : World} {base : Nat} {ok : Nat → Prop} {v : Value} {xs : List Ent} (h : kEnt.R 59 w base ok v xs) (hc : ∀ x ∈ xs, x.2.2.2.2.1.length ≤ 1000000000) : ∃ (A : Option Addr) (c bl : Nat), v = .slice A xs.length c ∧ (0 < xs.length → A = some ⟨bl, 0, none⟩) ∧ (0 < xs.length → base ≤ bl) ∧ OV base bl 0 xs.length w := by
  obtain ⟨h0, inner, ⟨hl, ho⟩, hr⟩ := h
  rcases ho with ⟨rfl, hn⟩ | ⟨g, cap, cur, rfl, hg, hh, hcp, _, hs, ht⟩
  · exact ⟨none, 0, 0, by rw [hn], fun g => by omega, fun g => by omega, fun j hj => by omega, fun j hj => by omega⟩
  · have hcs : cur.size = cap * 43 := hs
    have hcp' : xs.length ≤ cap := hcp
    refine ⟨_, _, g, rfl, fun _ => rfl, fun _ => hg, fun j hj i hi => ?_, fun j hj => ?_⟩
    · have hlt : 0 + j * 43 + 1 + i < cur.size := by omega
      constructor
      · simp only [World.cell?, hh]
        rw [Array.getElem?_eq_getElem hlt]
        rfl
      · simp [World.frozen?, hh]
    · have hx : xs[j]? = some xs[j] := List.getElem?_eq_getElem hj
      obtain ⟨V, h41, hV⟩ := ent_M_voters (hr.2 j _ hx)
      obtain ⟨B, d, rfl, hB⟩ := own_ints hV
      refine ⟨B, _, d, ?_, hc _ (List.getElem_mem hj), fun g0 => ?_⟩
      · have h2 : inner[j * 43 + 41]? = some (.slice B xs[j].2.2.2.2.1.length d) := by
          have h3 := h41
          rw [List.getElem?_take, if_pos (by decide), List.getElem?_drop] at h3
          exact h3
        rw [← ht, List.getElem?_take, if_pos (by show j * 43 + 41 < xs.length * 43; omega)] at h2
        simp only [World.cell?, hh, Nat.zero_add]
        rw [← h2]
        simp
      · obtain ⟨p, rfl, hp, hk, hth⟩ := hB g0
        refine ⟨p, 0, rfl, hp, fun e => ?_, hth⟩
        subst e
        exact hk.2 rfl
end Go.Proofs.Ytpjachbmllklgaa.Rng
end
section
/- Signed heads: their cells; the same are equal. -/
namespace Go.Proofs.Ytpjachbmllklgaa.Rng
open Go.RowKit Go.Proofs.YtpjachbmllklgaaW.PrintWords Go.Proofs.Ytpjachbmllklgaa.Kinds
set_option linter.unusedVariables false
set_option linter.unusedSimpArgs false

/-- A head's cells; a signed head's cells. -/
def headCells (x : Head) : List Value := [.int .i64 x.1] ++ (x.2.1.map (Value.int .u8) ++ x.2.2.map (Value.int .u8))
def sgnCells (x : Sgn) : List Value := headCells x.1 ++ x.2.map (Value.int .u8)
theorem sgn_K {w : World} {x : Sgn} {c : List Value} (h : kSgn.K w x c) : x.1.2.1.length = 32 ∧ x.1.2.2.length = 32 ∧ x.2.length = 32 ∧ c = sgnCells x := by
  obtain ⟨_, _, rfl, ⟨_, _, rfl, rfl, _, _, rfl, h2, h3⟩, h4⟩ := h
  obtain ⟨a1, a2⟩ := Kd.arr_cells (n := 32) h2
  obtain ⟨b1, b2⟩ := Kd.arr_cells (n := 32) h3
  obtain ⟨c1, c2⟩ := Kd.arr_cells (n := 32) h4
  exact ⟨a1, b1, c1, by rw [a2, b2, c2]; rfl⟩
theorem part_dig (w : World) (xs : List Value) (off : Nat) (vs : List Int) (h : (xs.drop off).take 32 = vs.map (Value.int .u8)) : (part 55 xs.toArray off).run Try.prog w = .ok (.agg (vs.map (Value.int .u8)).toArray) w := by
  obtain ⟨i, hi⟩ : ∃ i, Try.prog.info? 55 = some i := by
    have : (Try.prog.info? 55).isSome = true := by kernel_rfl
    exact Option.isSome_iff_exists.1 this
  have hc : Try.prog.cellsOf 55 = 32 := by kernel_rfl
  simp [part, isAgg, run_underlying Try.underlying55, run_sizeOf w hi, hc, h]
theorem part_head (w : World) (xs : List Value) (hd : List Value) (h : xs.take 65 = hd) : (part 67 xs.toArray 0).run Try.prog w = .ok (.agg hd.toArray) w := by
  obtain ⟨i, hi⟩ : ∃ i, Try.prog.info? 67 = some i := by
    have : (Try.prog.info? 67).isSome = true := by kernel_rfl
    exact Option.isSome_iff_exists.1 this
  have hc : Try.prog.cellsOf 67 = 65 := by kernel_rfl
  simp [part, isAgg, run_underlying Try.underlying67, run_sizeOf w hi, hc, h]
theorem eq_head (d : Nat) (w : World) (x : Head) (h1 : x.2.1.length = 32) (h2 : x.2.2.length = 32) : (Op.equalIn (d + 4) 67 (.agg (headCells x).toArray) (.agg (headCells x).toArray)).run Try.prog w = .ok true w := by
  have hs : Try.prog.stoodInHeld 67 = false := by kernel_rfl
  obtain ⟨a1, a2, a3⟩ := x
  dsimp only at h1 h2
  have eqI : ∀ (d t : Nat) (a : Int), Try.prog.underlying t = some (.int .i64) → (Op.equalIn (d + 1) t (.int .i64 a) (.int .i64 a)).run Try.prog w = .ok true w := fun d t a ht => by
    rw [run_equalIn_int (P := Try.prog) (w := w) d t .i64 .i64 a a ht, beq_self_eq_true]
  have p : (part 3 (headCells (a1, a2, a3)).toArray 0).run Try.prog w = .ok (.int .i64 a1) w := run_part_plain (P := Try.prog) w (by kernel_rfl) rfl
  have q1 : (part 55 (headCells (a1, a2, a3)).toArray 1).run Try.prog w = .ok (.agg (a2.map (Value.int .u8)).toArray) w := part_dig w _ 1 a2 (by
    show List.take 32 (a2.map (Value.int .u8) ++ a3.map (Value.int .u8)) = _
    rw [List.take_append_of_le_length (by simp [h1]), List.take_of_length_le (by simp [h1])])
  have q2 : (part 55 (headCells (a1, a2, a3)).toArray 33).run Try.prog w = .ok (.agg (a3.map (Value.int .u8)).toArray) w := part_dig w _ 33 a3 (by
    show List.take 32 (List.drop 32 (a2.map (Value.int .u8) ++ a3.map (Value.int .u8))) = _
    rw [List.drop_append, List.drop_of_length_le (by simp [h1]), List.nil_append]
    simp only [List.length_map, h1, Nat.sub_self, List.drop_zero]
    exact List.take_of_length_le (by simp [h2]))
  exact eqA_of (P := Try.prog) (w := w) (d := d + 3) (r := true) Try.underlying67 hs (eqf_cons (s := true) (r := true) rfl p p (eqI (d + 2) 3 a1 Try.underlying3)
    (eqf_cons (s := true) (r := true) rfl q1 q1 (eq_dig (d + 1) w a2 h1) (eqf_last (r := true) rfl q2 q2 (eq_dig (d + 1) w a3 h2))))
theorem neq_sgn (w : World) (x : Sgn) (h1 : x.1.2.1.length = 32) (h2 : x.1.2.2.length = 32) (h3 : x.2.length = 32) : (binOp .neq 69 (.agg (sgnCells x).toArray) (.agg (sgnCells x).toArray)).run Try.prog w = .ok (.bool false) w := by
  rw [run_neq_struct (P := Try.prog) (w := w)]
  have hs : Try.prog.stoodInHeld 69 = false := by kernel_rfl
  have hl : (headCells x.1).length = 65 := by simp [headCells, h1, h2]
  have q0 : (part 67 (sgnCells x).toArray 0).run Try.prog w = .ok (.agg (headCells x.1).toArray) w := part_head w _ _ (by
    unfold sgnCells
    rw [List.take_append_of_le_length (by omega), List.take_of_length_le (by omega)])
  have q1 : (part 55 (sgnCells x).toArray 65).run Try.prog w = .ok (.agg (x.2.map (Value.int .u8)).toArray) w := part_dig w _ 65 x.2 (by
    unfold sgnCells
    rw [List.drop_append, List.drop_of_length_le (by omega), List.nil_append, hl, Nat.sub_self, List.drop_zero]
    exact List.take_of_length_le (by simp [h3]))
  have := eqA_of (P := Try.prog) (w := w) (d := 9999) (r := true) Try.underlying69 hs (eqf_cons (s := true) (r := true) rfl q0 q0 (eq_head 9995 w x.1 h1 h2) (eqf_last (r := true) rfl q1 q1 (eq_dig 9997 w x.2 h3)))
  rw [this]
  rfl
/-- Signed heads that are read. -/
structure GX (W : World) (A : Option Addr) (b off : Nat) (gs : List Sgn) : Prop where
  A : 0 < gs.length → A = some ⟨b, off, none⟩
  row : ∀ j, j < gs.length → W.rangeAt b (off + j * 97) (sgnCells gs[j]!)
  len : ∀ j, j < gs.length → gs[j]!.1.2.1.length = 32 ∧ gs[j]!.1.2.2.length = 32 ∧ gs[j]!.2.length = 32
theorem sgnCells_length (x : Sgn) (h1 : x.1.2.1.length = 32) (h2 : x.1.2.2.length = 32) (h3 : x.2.length = 32) : (sgnCells x).length = 97 := by simp [sgnCells, headCells, h1, h2, h3]
theorem gx_of_C {w : World} {A : Option Addr} {gs : List Sgn} (h : kSgn.C w A gs.length gs) : ∃ b off, ∀ W, Below w.heap.size w W → GX W A b off gs := by
  by_cases h0 : 0 < gs.length
  · obtain ⟨ad, rfl, hcell⟩ := h.2.2 h0
    have key : ∀ j, j < gs.length → (gs[j]!.1.2.1.length = 32 ∧ gs[j]!.1.2.2.length = 32 ∧ gs[j]!.2.length = 32) ∧ ∀ i u, (sgnCells gs[j]!)[i]? = some u → w.cell? (ad.add (j * 97 + i)) = some u := fun j hj => by
      obtain ⟨c, _, hK, hc⟩ := hcell j gs[j]! (by rw [getElem!_pos gs j hj]; exact List.getElem?_eq_getElem hj)
      obtain ⟨l1, l2, l3, rfl⟩ := sgn_K hK
      exact ⟨⟨l1, l2, l3⟩, hc⟩
    obtain ⟨b, off, spot⟩ := ad
    have hc0 := (key 0 h0).2 0 _ (show (sgnCells gs[0]!)[0]? = some (.int .i64 gs[0]!.1.1) from rfl)
    have hspot : spot = none := by simpa [Addr.add] using World.cell?_spot hc0
    subst hspot
    refine ⟨b, off, fun W hW => ⟨fun _ => rfl, fun j hj i u hi => ?_, fun j hj => (key j hj).1⟩⟩
    have := (key j hj).2 i u hi
    rw [Addr.add_mid] at this
    rw [show off + j * 97 + i = off + (j * 97 + i) by omega]
    have hlt := block_lt_of_cell this
    simp only [World.cell?] at this ⊢
    rw [hW.block b hlt]
    exact this
  · exact ⟨0, 0, fun W _ => ⟨fun g => absurd g h0, fun j hj => by omega, fun j hj => by omega⟩⟩
end Go.Proofs.Ytpjachbmllklgaa.Rng
end
