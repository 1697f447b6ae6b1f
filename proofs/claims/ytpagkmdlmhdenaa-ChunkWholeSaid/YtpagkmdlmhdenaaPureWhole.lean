/- ChunkWhole's plain law. -/
import Derived.Test.YtpagkmdlmhdenaaPAllx37
import Derived.Test.YtpagkmdlmhdenaaPureB
namespace Go.Proofs.Ytpagkmdlmhdenaa.Pure
open Go.RowKit Go.Proofs.Ytpagkmdlmhdenaa.PAll Go.Proofs.YtpagkmdlmhdenaaW.PrintWords Go.Proofs.YtpagkmdlmhdenaaW.PrintLast
set_option linter.unusedVariables false
set_option linter.unusedSimpArgs false

section
variable (a0 a1 b0 b1 : Int) (l2 l3 : List Int) (s : ByteArray) (offs : List Int) (texts : List ByteArray)
theorem whole_right (hok : okB a0 a1 b0 b1 = true) (hs : s.size ≤ 20000) (n : Nat) (hn : n ≤ s.size) (more : Bool) (hm : if n < s.size then more = true ∧ n % 96 = 0 else more = false ∨ s.size = 0) :
    rightB a0 a1 b0 b1 l2 l3 (s.size : Int) (s.extract 0 n) more = true ∧ liveB a0 a1 b0 b1 l2 l3 (s.size : Int) (s.extract 0 n) more = true ∧ ((s.extract 0 n).size : Int) = n := by
  have hsz : (s.extract 0 n).size = n := by rw [ByteArray.size_extract]; omega
  have hz : zeroB a0 a1 b0 b1 l2 l3 (s.size : Int) (s.extract 0 n) more = false := by
    unfold okB at hok
    rw [decide_eq_true_eq] at hok
    unfold zeroB; rw [decide_eq_false_iff_not]; rintro ⟨h, _⟩; omega
  have hr : rightB a0 a1 b0 b1 l2 l3 (s.size : Int) (s.extract 0 n) more = true := by
    unfold rightB
    rw [hz, hok, Bool.false_or, Bool.true_and]
    unfold restB
    rw [hsz, decide_eq_true_eq]
    refine ⟨by omega, by omega, by omega, ?_⟩
    by_cases h : n < s.size
    · rw [if_pos h] at hm
      rw [if_pos (by omega)]
      exact ⟨hm.1, by omega⟩
    · rw [if_neg h] at hm
      rw [if_neg (by omega)]
      rcases hm with h1 | h1
      · exact .inl h1
      · exact .inr (by omega)
  exact ⟨hr, by unfold liveB; rw [hr, hz]; rfl, by omega⟩
theorem whole_end (hok : okB a0 a1 b0 b1 = true) (hs : s.size ≤ 20000) (h2 : l2.length ≤ 5000) (h3 : l3.length ≤ 5000) (k : Nat) (hk : 5006 ≤ k) (i : Int) :
    L_ChunkWhole.l0 k offs texts i b0 b1 l2 l3 s a0 a1 b0 b1 l2 l3 (s.size : Int) (s.extract 0 s.size) false = some true := by
  obtain ⟨k, rfl⟩ : ∃ m, k = m + 1 := ⟨k - 1, by omega⟩
  obtain ⟨_, hl, hsz⟩ := whole_right a0 a1 b0 b1 l2 l3 s hok hs s.size (Nat.le_refl _) false (by rw [if_neg (by omega)]; exact .inl rfl)
  simp only [L_ChunkWhole.l0]
  rw [if_neg (by decide), whole_eq a0 a1 b0 b1 l2 l3 (s.size : Int) _ false k (by omega) h2 h3 (by omega) (by omega)]
  simp only [Option.bind_some]
  rw [begins_eq k (by omega)]
  simp only [Option.bind_some]
  rw [if_pos trivial, takes_eq k (by omega)]
  simp only [Option.bind_some]
  rw [if_pos trivial]
  have hw : wholeV a0 a1 b0 b1 l2 l3 (s.size : Int) (s.extract 0 s.size) false = (b0, b1, l2, l3, s.extract 0 s.size, 0) := by unfold wholeV; rw [hl]; rfl
  rw [hw]
  simp only
  rw [if_pos trivial, samesnap_refl b0 b1 l2 l3 _ s k ByteArray.extract_zero_size h2 h3 (by omega)]
  rfl
theorem whole_j4 (hok : okB a0 a1 b0 b1 = true) (hs : s.size ≤ 20000) (h2 : l2.length ≤ 5000) (h3 : l3.length ≤ 5000) (n : Nat) (hn : n ≤ s.size) (hm : if n < s.size then n % 96 = 0 else s.size = 0) (k : Nat) (hk : 5006 ≤ k) (i : Int) (hi : 0 ≤ i ∧ i ≤ 300) :
    L_ChunkWhole.j4 (k + 1) offs texts i b0 b1 l2 l3 s a0 a1 b0 b1 l2 l3 (s.size : Int) (s.extract 0 n) true =
      L_ChunkWhole.l0 k offs texts (i + 1) b0 b1 l2 l3 s a0 a1 b0 b1 l2 l3 (s.size : Int) (s.extract 0 (n + min 96 (s.size - n))) (decide (n + min 96 (s.size - n) < s.size)) := by
  obtain ⟨_, hl, hsz⟩ := whole_right a0 a1 b0 b1 l2 l3 s hok hs n hn true (by
    by_cases h : n < s.size
    · rw [if_pos h] at hm ⊢; exact ⟨rfl, hm⟩
    · rw [if_neg h] at hm ⊢; exact .inr hm)
  have hmn : mn 96 ((s.size : Int) - (n : Int)) = ((min 96 (s.size - n) : Nat) : Int) := by unfold mn; split <;> omega
  have hpart : (n : Int) = 0 ∨ (0 < (n : Int) ∧ (n : Int) < (s.size : Int) ∧ (n : Int) % 96 = 0) := by
    by_cases h : n < s.size
    · rw [if_pos h] at hm; omega
    · rw [if_neg h] at hm; omega
  have hcut : cutV s (n : Int) = (s.extract n (n + min 96 (s.size - n)), 0) := by
    unfold cutV
    rw [if_neg (by omega), if_pos (isPart_iff.2 hpart), hmn]
    rfl
  have hes : (s.extract n (n + min 96 (s.size - n))).size = min 96 (s.size - n) := by rw [ByteArray.size_extract]; omega
  have happ : s.extract 0 n ++ s.extract n (n + min 96 (s.size - n)) = s.extract 0 (n + min 96 (s.size - n)) := by
    rw [ByteArray.extract_append_extract]
    congr 1 <;> omega
  have hfit : fitsB (s.size : Int) (s.extract 0 n) true (n : Int) (s.extract n (n + min 96 (s.size - n))) = true := by
    unfold fitsB
    rw [hsz, partV_yes hpart, hes, hmn]
    simp
  have ht : takeV a0 a1 b0 b1 l2 l3 (s.size : Int) (s.extract 0 n) true (n : Int) (s.extract n (n + min 96 (s.size - n))) = (a0, a1, b0, b1, l2, l3, (s.size : Int), s.extract 0 (n + min 96 (s.size - n)), decide (n + min 96 (s.size - n) < s.size), true, 0) := by
    unfold takeV
    rw [hl, hfit, happ, hsz, hes]
    have hd : decide ((n : Int) + ((min 96 (s.size - n) : Nat) : Int) < (s.size : Int)) = decide (n + min 96 (s.size - n) < s.size) := by
      rw [Bool.eq_iff_iff, decide_eq_true_eq, decide_eq_true_eq]; omega
    rw [hd]; rfl
  simp only [L_ChunkWhole.j4]
  rw [hsz, cut_eq, hcut]
  simp only [Option.bind_some]
  rw [take_eq a0 a1 b0 b1 l2 l3 (s.size : Int) (s.extract 0 n) true k (n : Int) _ (by omega) h2 h3 (by omega) (by omega) (by omega), ht]
  simp only [Option.bind_some]
  rw [if_pos trivial, if_pos trivial, if_pos trivial, wrap_id (by omega) (by omega)]
theorem whole_j3 (hok : okB a0 a1 b0 b1 = true) (hs : s.size ≤ 20000) (h2 : l2.length ≤ 5000) (h3 : l3.length ≤ 5000) (n : Nat) (hn : n ≤ s.size) (hm : if n < s.size then n % 96 = 0 else s.size = 0) (k : Nat) (hk : 5007 ≤ k) (i : Int) (hi : 0 ≤ i ∧ i ≤ 300)
    (b : Bool) (hb : b = true → i < (offs.length : Int) ∧ i < (texts.length : Int) ∧ rd offs i ≠ (n : Int) ∧ ((rdOf ByteArray.empty texts i).size : Int) < 1000) :
    L_ChunkWhole.j3 (k + 1) offs texts i b b0 b1 l2 l3 s a0 a1 b0 b1 l2 l3 (s.size : Int) (s.extract 0 n) true = L_ChunkWhole.j4 k offs texts i b0 b1 l2 l3 s a0 a1 b0 b1 l2 l3 (s.size : Int) (s.extract 0 n) true := by
  obtain ⟨_, hl, hsz⟩ := whole_right a0 a1 b0 b1 l2 l3 s hok hs n hn true (by
    by_cases h : n < s.size
    · rw [if_pos h] at hm ⊢; exact ⟨rfl, hm⟩
    · rw [if_neg h] at hm ⊢; exact .inr hm)
  simp only [L_ChunkWhole.j3]
  cases b with
  | false => rw [if_neg (by decide)]
  | true =>
    obtain ⟨c0, c1, c2, c3⟩ := hb rfl
    rw [if_pos rfl, if_pos hi.1, if_pos c0, if_pos c1, take_eq a0 a1 b0 b1 l2 l3 (s.size : Int) (s.extract 0 n) true k _ _ (by omega) h2 h3 (by omega) (by omega) (by omega)]
    have hnf : fitsB (s.size : Int) (s.extract 0 n) true (rd offs i) (rdOf ByteArray.empty texts i) = false := by
      unfold fitsB; rw [hsz, decide_eq_false c2]; simp
    have hv : takeV a0 a1 b0 b1 l2 l3 (s.size : Int) (s.extract 0 n) true (rd offs i) (rdOf ByteArray.empty texts i) = (a0, a1, b0, b1, l2, l3, (s.size : Int), s.extract 0 n, true, false, 0) := by unfold takeV; rw [hl, hnf]; rfl
    rw [hv]
    simp only [Option.bind_some]
    rw [if_neg (by decide), if_pos trivial, same_refl a0 a1 b0 b1 l2 l3 (s.size : Int) (s.extract 0 n) true k h2 h3 (by omega)]
    rfl
theorem whole_j2 (hok : okB a0 a1 b0 b1 = true) (hs : s.size ≤ 20000) (h2 : l2.length ≤ 5000) (h3 : l3.length ≤ 5000) (n : Nat) (hn : n ≤ s.size) (hm : if n < s.size then n % 96 = 0 else s.size = 0) (k : Nat) (hk : 5008 ≤ k) (i : Int) (hi : 0 ≤ i ∧ i ≤ 300) :
    L_ChunkWhole.j2 (k + 2) offs texts i false b0 b1 l2 l3 s a0 a1 b0 b1 l2 l3 (s.size : Int) (s.extract 0 n) true = L_ChunkWhole.j4 k offs texts i b0 b1 l2 l3 s a0 a1 b0 b1 l2 l3 (s.size : Int) (s.extract 0 n) true := by
  have hsz : ((s.extract 0 n).size : Int) = n := by rw [ByteArray.size_extract]; omega
  have j3 := fun b hb => whole_j3 a0 a1 b0 b1 l2 l3 s offs texts hok hs h2 h3 n hn hm k (by omega) i hi b hb
  simp only [L_ChunkWhole.j2]
  rw [if_neg (by decide)]
  by_cases c0 : i < (offs.length : Int)
  · rw [if_pos c0]
    by_cases c1 : i < (texts.length : Int)
    · rw [if_pos c1, if_pos hi.1]
      by_cases c2 : rd offs i = ((s.extract 0 n).size : Int)
      · rw [if_pos c2]; exact j3 false (fun h => by cases h)
      · rw [if_neg c2]
        exact j3 _ (fun h => ⟨c0, c1, by rw [← hsz]; exact c2, of_decide_eq_true h⟩)
    · rw [if_neg c1]; exact j3 false (fun h => by cases h)
  · rw [if_neg c0]; exact j3 false (fun h => by cases h)
theorem whole_loop (hok : okB a0 a1 b0 b1 = true) (hs : s.size ≤ 20000) (h2 : l2.length ≤ 5000) (h3 : l3.length ≤ 5000) :
    ∀ (d k i : Nat), d + i = 210 → (i = 0 ∨ 96 * i < s.size) → 4 * d + 6000 ≤ k →
      L_ChunkWhole.l0 k offs texts (i : Int) b0 b1 l2 l3 s a0 a1 b0 b1 l2 l3 (s.size : Int) (s.extract 0 (96 * i)) true = some true := by
  intro d
  induction d with
  | zero => intro k i hd hi hk; omega
  | succ d ih =>
    intro k i hd hi hk
    obtain ⟨k, rfl⟩ : ∃ m, k = m + 4 := ⟨k - 4, by omega⟩
    have hn : 96 * i ≤ s.size := by omega
    have hm : if 96 * i < s.size then 96 * i % 96 = 0 else s.size = 0 := by split <;> omega
    obtain ⟨hr, _, hsz⟩ := whole_right a0 a1 b0 b1 l2 l3 s hok hs (96 * i) hn true (by
      by_cases h : 96 * i < s.size
      · rw [if_pos h] at hm ⊢; exact ⟨rfl, hm⟩
      · rw [if_neg h] at hm ⊢; exact .inr hm)
    have hmin : mn ((s.extract 0 (96 * i)).size : Int) (s.size : Int) = ((96 * i : Nat) : Int) := by rw [hsz]; unfold mn; split <;> omega
    simp only [L_ChunkWhole.l0]
    rw [if_pos trivial, if_neg (by omega), check_eq a0 a1 b0 b1 l2 l3 (s.size : Int) _ true (k + 3) (by omega) h2 h3 (by omega) (by omega), hr, hmin]
    simp only [Option.bind_some, if_true]
    rw [if_pos (by omega), if_pos (by omega)]
    simp only [Int.toNat_natCast, bne_self_eq_false]
    rw [whole_j2 a0 a1 b0 b1 l2 l3 s offs texts hok hs h2 h3 (96 * i) hn hm (k + 1) (by omega) (i : Int) (by omega), whole_j4 a0 a1 b0 b1 l2 l3 s offs texts hok hs h2 h3 (96 * i) hn hm k (by omega) (i : Int) (by omega)]
    by_cases hmore : 96 * i + min 96 (s.size - 96 * i) < s.size
    · rw [decide_eq_true hmore]
      have e : 96 * i + min 96 (s.size - 96 * i) = 96 * (i + 1) := by omega
      rw [e, show ((i : Int) + 1) = ((i + 1 : Nat) : Int) by omega]
      exact ih k (i + 1) (by omega) (.inr (by omega)) (by omega)
    · rw [decide_eq_false hmore]
      have e : 96 * i + min 96 (s.size - 96 * i) = s.size := by omega
      rw [e]
      exact whole_end a0 a1 b0 b1 l2 l3 s offs texts hok hs h2 h3 k (by omega) _
end
theorem chunkWhole (a0 a1 b0 b1 : Int) (l2 l3 : List Int) (s : ByteArray) (offs : List Int) (texts : List ByteArray) : ∃ k, L_ChunkWhole.f k a0 a1 b0 b1 l2 l3 s offs texts = some true := by
  refine ⟨7001, ?_⟩
  have j0t : ∀ (k : Nat), L_ChunkWhole.j0 (k + 1) a0 a1 offs texts true b0 b1 l2 l3 s = some true := fun _ => rfl
  unfold L_ChunkWhole.f
  by_cases hs : (s.size : Int) > 20000
  · rw [if_pos hs, j0t]
  · rw [if_neg hs]
    rcases big_cases l2 l3 with hb | ⟨hb, h2, h3⟩
    · rw [hb]; simp only [Option.bind_some]; rw [if_pos trivial, j0t]
    · rw [hb]
      simp only [Option.bind_some]
      rw [if_neg (by decide)]
      by_cases c0 : (offs.length : Int) > 300
      · rw [if_pos c0, j0t]
      · rw [if_neg c0]
        by_cases c1 : (texts.length : Int) > 300
        · rw [decide_eq_true c1, j0t]
        · rw [decide_eq_false c1]
          simp only [L_ChunkWhole.j0]
          rw [if_neg (by decide), begin_eq a0 a1 b0 b1 l2 l3 s 7000 (by omega) h2 h3 (by omega)]
          simp only [Option.bind_some]
          by_cases hbg : beginB a0 a1 b0 b1 s = true
          · have hv : beginV a0 a1 b0 b1 l2 l3 s = (a0, a1, b0, b1, l2, l3, (s.size : Int), ⟨#[]⟩, true, 0) := by unfold beginV; rw [if_pos hbg]
            have hok : okB a0 a1 b0 b1 = true := by unfold beginB at hbg; rw [Bool.and_eq_true] at hbg; exact hbg.1
            rw [hv]
            simp only
            rw [if_pos trivial]
            have := whole_loop a0 a1 b0 b1 l2 l3 s offs texts hok (by omega) h2 h3 210 7000 0 (by omega) (.inl rfl) (by omega)
            rw [Nat.mul_zero, ByteArray.extract_same] at this
            exact this
          · have hv : beginV a0 a1 b0 b1 l2 l3 s = (0, 0, 0, 0, [], [], 0, ⟨#[]⟩, false, 150) := by unfold beginV; rw [if_neg hbg]
            rw [hv]
            simp only
            rw [if_neg (by decide), begins_eq 7000 (by omega)]
            simp only [Option.bind_some]
            rw [if_pos trivial, takes_eq 7000 (by omega)]
            rfl
end Go.Proofs.Ytpagkmdlmhdenaa.Pure
