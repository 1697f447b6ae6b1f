/- Several texts in one. -/
import Derived.Test.YtpjachbmllklgaaLgD
import Derived.Test.YtpjachbmllklgaaPOctx3
import Derived.Test.YtpjachbmllklgaaPOctx4
section
/- What the reference lays: the state of an Out; counts, texts; add. -/
namespace Go.Proofs.Ytpjachbmllklgaa.Rng
open Go.RowKit Go.Proofs.YtpjachbmllklgaaW.PrintWords Go.Proofs.Ytpjachbmllklgaa.Kinds Go.Proofs.Ytpjachbmllklgaa.POct
set_option linter.unusedVariables false
set_option linter.unusedSimpArgs false
attribute [local go_sem] Oper.semAt_some

theorem groups_f : ∀ (k : Nat) (a : Int), k ≤ 100 → 0 ≤ a → a < 128 ^ (k + 1) → a < 9223372036854775808 → ∃ bs, r01_Groups.f (k + 1) a = some bs ∧ bs.length ≤ k + 1
  | 0, a, hk, h0, h1, h2 => by
    refine ⟨_, by rw [r01_Groups.f, if_pos (by simpa using h1)], by simp⟩
  | k + 1, a, hk, h0, h1, h2 => by
    by_cases h : a < 128
    · exact ⟨_, by rw [r01_Groups.f, if_pos h], by simp⟩
    · have hd : Int.tdiv a 128 = a / 128 := Int.tdiv_eq_ediv_of_nonneg h0
      have hw : wrap64 (Int.tdiv a 128) = a / 128 := by rw [hd]; unfold wrap64; omega
      have hp : a / 128 < 128 ^ (k + 1) := by
        apply Int.ediv_lt_of_lt_mul (by decide)
        have : (128 : Int) ^ (k + 1 + 1) = 128 ^ (k + 1) * 128 := Int.pow_succ ..
        omega
      obtain ⟨bs, e1, e2⟩ := groups_f k (a / 128) (by omega) (by omega) hp (by omega)
      refine ⟨[(wrap64 (128 + (Int.tmod a 128))) % 256] ++ bs, ?_, ?_⟩
      · rw [r01_Groups.f, if_neg h, hw, e1]
        simp only [Option.bind_some]
        rw [if_pos (by simp; omega)]
      · simp; omega
theorem groups5 (a : Int) (h0 : 0 ≤ a) (h1 : a ≤ 2147483647) : ∃ bs, r01_Groups.f 5 a = some bs ∧ bs.length ≤ 5 := groups_f 4 a (by omega) h0 (by omega) (by omega)
theorem count_c (x : Int) (w : World) : Calls Try.prog 75 #[.int .i64 x] w fun e w' => ∃ (v : Value) (er : Int) (bs : List Int), e = .returned (.tuple #[v, .int .i64 er]) ∧ bs.length ≤ 5 ∧ (Kd.int .u8).R 5 w' w.heap.size (fun _ => True) v bs ∧ Below w.heap.size w w' := by
  have hf : ∃ bs er, r01_Count.f 5 x = some (bs, er) ∧ bs.length ≤ 5 := by
    unfold r01_Count.f r01_Is.f
    by_cases h0 : x ≥ 0
    · rw [if_pos h0]
      by_cases h1 : x ≤ 2147483647
      · obtain ⟨bs, e1, e2⟩ := groups5 x h0 h1
        exact ⟨bs, 0, by simp [h1, e1], e2⟩
      · exact ⟨[], 1, by simp [h1], by simp⟩
    · rw [if_neg h0]
      exact ⟨[], 1, by simp, by simp⟩
  obtain ⟨bs, er, hf, hl⟩ := hf
  refine (r01_Count.calls 5 x bs er w hf).mono ?_
  rintro e w' ⟨v, rfl, hR, hb⟩
  exact ⟨v, er, bs, rfl, hl, hR, hb⟩
theorem bytes_c (x : ByteArray) (w : World) : Calls Try.prog 79 #[.string x] w fun e w' => ∃ (v : Value) (er : Int) (bs : List Int), e = .returned (.tuple #[v, .int .i64 er]) ∧ bs.length ≤ 65541 ∧ (Kd.int .u8).R 5 w' w.heap.size (fun _ => True) v bs ∧ Below w.heap.size w w' := by
  have hf : ∃ bs er, r01_Bytes.f 5 x = some (bs, er) ∧ bs.length ≤ 65541 := by
    unfold r01_Bytes.f
    by_cases h0 : (x.size : Int) > 65536
    · exact ⟨[], 2, by rw [if_pos h0], by simp⟩
    · obtain ⟨bs, e1, e2⟩ := groups5 (x.size : Int) (by omega) (by omega)
      refine ⟨bs ++ bytesOf x, 0, ?_, by rw [List.length_append, bytesOf_length]; omega⟩
      rw [if_neg h0, e1]
      simp only [Option.bind_some]
      rw [if_pos (by omega)]
  obtain ⟨bs, er, hf, hl⟩ := hf
  refine (r01_Bytes.calls 5 x bs er w hf).mono ?_
  rintro e w' ⟨v, rfl, hR, hb⟩
  exact ⟨v, er, bs, rfl, hl, hR, hb⟩
theorem info5 : (Try.prog.info? 5).map (fun i => (i.zero, i.size, i.bytes)) = some (some (.int .u8 0), 1, 1) := by kernel_rfl
/-- An Out: its bytes are its own, K at most. -/
structure OutI (W : World) (p base K : Nat) : Prop where
  le : base ≤ p
  ex : ∃ (A : Option Addr) (n c : Nat) (e : Int) (bs : List Int), W.heap[p]? = some (.cells #[.slice A n c, .int .i64 e] 107 (0, 0)) ∧ (Kd.int .u8).R 5 W base (fun k => k ≠ p) (.slice A n c) bs ∧ bs.length ≤ K
/-- What is kept: what lies below, and what is neither the Out nor bytes. -/
structure Fr (base p : Nat) (W W' : World) : Prop where
  below : Below base W W'
  typed : ∀ k cells t fr, W.heap[k]? = some (.cells cells t fr) → t ≠ 5 → k ≠ p → W'.heap[k]? = W.heap[k]?
theorem Fr.refl (base p : Nat) (W : World) : Fr base p W W := ⟨Below.refl _ _, fun _ _ _ _ _ _ _ => rfl⟩
theorem Fr.trans {base p : Nat} {A B C : World} (h : Fr base p A B) (k : Fr base p B C) : Fr base p A C :=
  ⟨h.below.trans k.below, fun i cells t fr hi ht hp => (k.typed i cells t fr ((h.typed i cells t fr hi ht hp).trans hi) ht hp).trans (h.typed i cells t fr hi ht hp)⟩
theorem Fr.of_below {base p : Nat} {A B : World} (hb : Below A.heap.size A B) (h : base ≤ A.heap.size) : Fr base p A B :=
  ⟨hb.mono h, fun k cells t fr hk _ _ => hb.block k (Array.getElem?_eq_some_iff.1 hk).1⟩
theorem OutI.lt {W : World} {p base K : Nat} (h : OutI W p base K) : p < W.heap.size := by
  obtain ⟨A, n, c, e, bs, h1, _⟩ := h.ex
  exact (Array.getElem?_eq_some_iff.1 h1).1
theorem OutI.below {W W' : World} {p base K : Nat} (h : OutI W p base K) (hb : Below W.heap.size W W') : OutI W' p base K := by
  obtain ⟨A, n, c, e, bs, h1, h2, h3⟩ := h.ex
  exact ⟨h.le, A, n, c, e, bs, (hb.block p h.lt).trans h1, Kd.R_below h2 hb, h3⟩
theorem OutI.mono {W : World} {p base K K' : Nat} (h : OutI W p base K) (hk : K ≤ K') : OutI W p base K' := by
  obtain ⟨A, n, c, e, bs, h1, h2, h3⟩ := h.ex
  exact ⟨h.le, A, n, c, e, bs, h1, h2, by omega⟩

set_option maxHeartbeats 1000000 in
set_option maxRecDepth 100000 in
theorem add_c (p base K M : Nat) (W : World) (h : OutI W p base K) (A : Option Addr) (n c : Nat) (bs : List Int) (hC : (Kd.int .u8).C W A n bs) (hn : n ≤ M) (er : Int) (hK : K + M ≤ 1000000000000) :
    Calls Try.prog 76 #[.pointer (some ⟨p, 0, none⟩), .slice A n c, .int .i64 er] W fun e w' => e = .returned (.tuple #[]) ∧ OutI w' p base (K + M) ∧ Fr base p W w' := by
  have hh := h
  obtain ⟨hb, A0, n0, c0, e0, b0, h1, h2, h3⟩ := h
  have hlt := hh.lt
  have hbn : bs.length = n := hC.1
  have hb0 : b0.length = n0 := by obtain ⟨a1, a2, a3⟩ := Kd.R_reads' h2; exact a1.symm
  have HH := Aside0.mk hh
  have HC := Aside0.mk hC
  have H2 := Aside0.mk h2
  have H1 := Aside0.mk h1
  have B0 := Aside0.mk hb0
  have BN := Aside0.mk hbn
  have p0 : W.cell? ⟨p, 0, none⟩ = some (.slice A0 n0 c0) := by simp [World.cell?, h1]
  have p1 : W.cell? ⟨p, 1, none⟩ = some (.int .i64 e0) := by simp [World.cell?, h1]
  have f0 : W.frozen? ⟨p, 0, none⟩ = false := by simp [World.frozen?, h1]
  have f1 : W.frozen? ⟨p, 1, none⟩ = false := by simp [World.frozen?, h1]
  have hl0 : n0 ≤ K := by omega
  clear hh hC h2 h1 hb0 hbn h3
  by_cases g0 : e0 = 0
  · subst g0
    by_cases g1 : er = 0
    · subst g1
      go_enter Try.func76, Try.ntmps76
      go_wp2_with (at_builtin; refine Kd.R_append_rows (Kd.int .u8) (w0 := W) base rfl (.tmp 21) (.tmp 22) 94 5 (.int .u8 0) 1 rfl Try.underlying94 info5 rfl (by decide) (by omega) (.slice A0 n0 c0) b0 bs A n c (fun k => k ≠ p) (fun _ => False) rfl rfl H2.out HC.out (fun _ _ h => h) (fun _ h => h.elim) (fun k hk => by omega) (Below.refl _ _) (by omega) ?aL ?_)
      case aL => rw [B0.out]; omega
      intro v1 w1 ho hbw hg hat
      have q1 : w1.heap[p]? = some (.cells #[.slice A0 n0 c0, .int .i64 0] 107 (0, 0)) := (hg.block p hlt (fun e => H2.out.1 p e.symm rfl)).trans H1.out
      have c1 : w1.cell? ⟨p, 0, none⟩ = some (.slice A0 n0 c0) := by simp [World.cell?, q1]
      have f2 : w1.frozen? ⟨p, 0, none⟩ = false := by simp [World.frozen?, q1]
      have hFr : Fr base p W w1 := ⟨hbw, fun k cells t fr hk ht hp => hg.block k (Array.getElem?_eq_some_iff.1 hk).1 (fun e => by
        obtain ⟨inner, hown⟩ := Kd.R_own H2.out
        obtain ⟨cur, hcur⟩ := own_typed hown k e.symm
        rw [hk] at hcur
        injection hcur with hcur
        injection hcur with _ e2 _
        exact ht e2)⟩
      have hlv : (b0 ++ bs).length ≤ K + M := by rw [List.length_append, B0.out, BN.out]; omega
      obtain ⟨A1, cp1, hv1⟩ := Kd.R_slice ho
      subst hv1
      generalize (b0 ++ bs) = bx at *
      generalize hbl : bx.length = nl at *
      have HO := Aside0.mk ho
      have HF := Aside0.mk hFr
      have Q1 := Aside0.mk q1
      have BL := Aside0.mk hbl
      clear ho hbw hg hat hFr q1 p0 p1 f0 f1 hbl
      go_wp2_with fail
      all_goals first | go_end0 | ((try simp only [Exit.inBlock, Exit.then]); refine bodyPost_ret (results_none rfl _ _ _) rfl ?_)
      have k1 : (w1.setCell ⟨p, 0, none⟩ (.slice A1 nl cp1)).heap[p]? = some (.cells #[.slice A1 nl cp1, .int .i64 0] 107 (0, 0)) := by simp [World.setCell, Array.getElem?_modify, Q1.out]
      refine ⟨rfl, ⟨hb, A1, nl, cp1, 0, bx, k1, Kd.R_far (p := ⟨p, 0, none⟩) HO.out (fun k hk => hk) _, by rw [BL.out]; exact hlv⟩, HF.out.below.setCell (p := ⟨p, 0, none⟩) hb _, fun k cells t fr hk ht hp => (Below.heap_setCell _ _ _ _ hp).trans (HF.out.typed k cells t fr hk ht hp)⟩
    · go_enter Try.func76, Try.ntmps76
      go_wp2_with fail
      all_goals first | go_end0 | ((try simp only [Exit.inBlock, Exit.then]); refine bodyPost_ret (results_none rfl _ _ _) rfl ?_)
      have k1 : (W.setCell ⟨p, 1, none⟩ (.int .i64 er)).heap[p]? = some (.cells #[.slice A0 n0 c0, .int .i64 er] 107 (0, 0)) := by simp [World.setCell, Array.getElem?_modify, H1.out]
      refine ⟨rfl, ⟨hb, A0, n0, c0, er, b0, k1, Kd.R_far (p := ⟨p, 1, none⟩) H2.out (fun k hk => hk) _, by rw [B0.out]; omega⟩, (Below.refl _ W).setCell (p := ⟨p, 1, none⟩) hb _, fun k cells t fr hk ht hp => Below.heap_setCell _ _ _ _ hp⟩
  · go_enter Try.func76, Try.ntmps76
    go_wp2_with fail
    all_goals first | go_end0 | ((try simp only [Exit.inBlock, Exit.then]); refine bodyPost_ret (results_none rfl _ _ _) rfl ?_)
    exact ⟨rfl, HH.out.mono (by omega), Fr.refl _ _ _⟩
end Go.Proofs.Ytpjachbmllklgaa.Rng
end
section
/- What the reference lays: numbers, texts, digests, rows of numbers, councils. -/
namespace Go.Proofs.Ytpjachbmllklgaa.Rng
open Go.RowKit Go.Proofs.YtpjachbmllklgaaW.PrintWords Go.Proofs.Ytpjachbmllklgaa.Kinds
set_option linter.unusedVariables false
set_option linter.unusedSimpArgs false
attribute [local go_sem] Oper.semAt_some

/-- What a method of an Out does: at most M bytes more. -/
abbrev OutPost (W : World) (p base K : Nat) : Ending → World → Prop := fun e w' => e = .returned (.tuple #[]) ∧ OutI w' p base K ∧ Fr base p W w'

set_option maxHeartbeats 1000000 in
set_option maxRecDepth 100000 in
theorem n_c (p base K : Nat) (W : World) (h : OutI W p base K) (x : Int) (hK : K + 5 ≤ 1000000000000) : Calls Try.prog 70 #[.pointer (some ⟨p, 0, none⟩), .int .i64 x] W (OutPost W p base (K + 5)) := by
  have e75 : ∀ args w, (callFunc 75 args).run Try.prog w = .ok (.enter 75 args) w := enters_of Try.func75 (by kernel_rfl) rfl
  have e76 : ∀ args w, (callFunc 76 args).run Try.prog w = .ok (.enter 76 args) w := enters_of Try.func76 (by kernel_rfl) rfl
  have H := Aside0.mk h
  have hb := h.le
  have hlt := h.lt
  clear h
  go_enter Try.func70, Try.ntmps70
  go_wp2_with fail
  refine (count_c x W).mono ?_
  rintro e w2 ⟨v, er, bs, rfl, hl, hR, hb2⟩
  obtain ⟨A, c, hv, hc, hC⟩ := Kd.R_reads hR
  subst hv
  have HA := Aside0.mk (add_c p base K 5 w2 (H.out.below hb2) A bs.length c bs hC hl er hK)
  have HF := Aside0.mk (Fr.of_below (base := base) (p := p) hb2 (by omega))
  clear hR hC hb2 hc
  generalize bs.length = m at *
  go_wp2_with fail
  refine HA.out.mono ?_
  rintro e w3 ⟨rfl, hO, hF⟩
  have HO := Aside0.mk hO
  have HF2 := Aside0.mk (HF.out.trans hF)
  clear hO hF
  go_wp2_with fail
  all_goals first | go_end0 | ((try simp only [Exit.inBlock, Exit.then]); refine bodyPost_ret (results_none rfl _ _ _) rfl ?_)
  exact ⟨rfl, HO.out, HF2.out⟩

set_option maxHeartbeats 1000000 in
set_option maxRecDepth 100000 in
theorem s_c (p base K : Nat) (W : World) (h : OutI W p base K) (x : ByteArray) (hK : K + 65541 ≤ 1000000000000) : Calls Try.prog 73 #[.pointer (some ⟨p, 0, none⟩), .string x] W (OutPost W p base (K + 65541)) := by
  have e79 : ∀ args w, (callFunc 79 args).run Try.prog w = .ok (.enter 79 args) w := enters_of Try.func79 (by kernel_rfl) rfl
  have e76 : ∀ args w, (callFunc 76 args).run Try.prog w = .ok (.enter 76 args) w := enters_of Try.func76 (by kernel_rfl) rfl
  have H := Aside0.mk h
  have hb := h.le
  have hlt := h.lt
  clear h
  go_enter Try.func73, Try.ntmps73
  go_wp2_with fail
  refine (bytes_c x W).mono ?_
  rintro e w2 ⟨v, er, bs, rfl, hl, hR, hb2⟩
  obtain ⟨A, c, hv, hc, hC⟩ := Kd.R_reads hR
  subst hv
  have HA := Aside0.mk (add_c p base K 65541 w2 (H.out.below hb2) A bs.length c bs hC hl er hK)
  have HF := Aside0.mk (Fr.of_below (base := base) (p := p) hb2 (by omega))
  clear hR hC hb2 hc
  generalize bs.length = m at *
  go_wp2_with fail
  refine HA.out.mono ?_
  rintro e w3 ⟨rfl, hO, hF⟩
  have HO := Aside0.mk hO
  have HF2 := Aside0.mk (HF.out.trans hF)
  clear hO hF
  go_wp2_with fail
  all_goals first | go_end0 | ((try simp only [Exit.inBlock, Exit.then]); refine bodyPost_ret (results_none rfl _ _ _) rfl ?_)
  exact ⟨rfl, HO.out, HF2.out⟩

set_option maxHeartbeats 1000000 in
set_option maxRecDepth 100000 in
theorem many_c (p base K : Nat) (W : World) (h : OutI W p base K) (x : Int) (hK : K + 5 ≤ 1000000000000) : Calls Try.prog 84 #[.pointer (some ⟨p, 0, none⟩), .int .i64 x] W fun e w' => e = .returned (.bool (decide (x ≤ 4096))) ∧ OutI w' p base (K + 5) ∧ Fr base p W w' := by
  have e70 : ∀ args w, (callFunc 70 args).run Try.prog w = .ok (.enter 70 args) w := enters_of Try.func70 (by kernel_rfl) rfl
  have e76 : ∀ args w, (callFunc 76 args).run Try.prog w = .ok (.enter 76 args) w := enters_of Try.func76 (by kernel_rfl) rfl
  by_cases g : x > 4096
  · rw [show decide (x ≤ 4096) = false from by simp; omega]
    have HA := Aside0.mk (add_c p base K 5 W h none 0 0 [] ⟨rfl, by decide, fun g => absurd g (by decide)⟩ (by omega) 2 hK)
    clear h
    go_enter Try.func84, Try.ntmps84
    go_wp2_with fail
    refine HA.out.mono ?_
    rintro e w2 ⟨rfl, hO, hF⟩
    have HO := Aside0.mk hO
    have HF := Aside0.mk hF
    clear hO hF
    go_wp2_with fail
    go_ret
    exact ⟨rfl, HO.out, HF.out⟩
  · rw [show decide (x ≤ 4096) = true from by simp; omega]
    have HA := Aside0.mk (n_c p base K W h x hK)
    clear h
    go_enter Try.func84, Try.ntmps84
    go_wp2_with fail
    refine HA.out.mono ?_
    rintro e w2 ⟨rfl, hO, hF⟩
    have HO := Aside0.mk hO
    have HF := Aside0.mk hF
    clear hO hF
    go_wp2_with fail
    go_ret
    exact ⟨rfl, HO.out, HF.out⟩
end Go.Proofs.Ytpjachbmllklgaa.Rng
end
section
/- What the reference lays: digests, rows of numbers, councils. -/
namespace Go.Proofs.Ytpjachbmllklgaa.Rng
open Go.RowKit Go.Proofs.YtpjachbmllklgaaW.PrintWords Go.Proofs.Ytpjachbmllklgaa.Kinds
set_option linter.unusedVariables false
set_option linter.unusedSimpArgs false
attribute [local go_sem] Oper.semAt_some

theorem bytes_C {W : World} {p : Nat} {vs : List Int} {t : TypeId} {fr : Nat × Nat} (h : W.heap[p]? = some (.cells (vs.map (Value.int .u8)).toArray t fr)) (hl : vs.length ≤ 1000000) : (Kd.int .u8).C W (some ⟨p, 0, none⟩) vs.length vs := by
  refine ⟨rfl, by omega, fun _ => ⟨_, rfl, fun j q hj => ⟨[.int .u8 q], rfl, rfl, fun i u hi => ?_⟩⟩⟩
  have hi0 : i = 0 := by have : i < 1 := (List.getElem?_eq_some_iff.1 hi).1; omega
  subst hi0
  have hu : Value.int .u8 q = u := by simpa using hi
  subst hu
  rw [Addr.add_mid]
  simp only [World.cell?, h]
  have : (vs.map (Value.int .u8))[0 + (j * 1 + 0)]? = some (.int .u8 q) := by
    rw [show 0 + (j * 1 + 0) = j by omega, List.getElem?_map, hj]
    rfl
  simpa [show (Kd.int .u8).sz = 1 from rfl] using this

set_option maxHeartbeats 1000000 in
set_option maxRecDepth 100000 in
theorem d_c (p base K : Nat) (W : World) (h : OutI W p base K) (vs : List Int) (hv : vs.length = 32) (hK : K + 32 ≤ 1000000000000) : Calls Try.prog 81 #[.pointer (some ⟨p, 0, none⟩), .agg (vs.map (Value.int .u8)).toArray] W (OutPost W p base (K + 32)) := by
  have e76 : ∀ args w, (callFunc 76 args).run Try.prog w = .ok (.enter 76 args) w := enters_of Try.func76 (by kernel_rfl) rfl
  have hb := h.le
  have hlt := h.lt
  have hba : Below W.heap.size W (W.alloc (.cells (vs.map (Value.int .u8)).toArray 55)) := (Below.refl _ W).alloc (Nat.le_refl _) _
  have HA := Aside0.mk (add_c p base K 32 _ (h.below hba) (some ⟨W.heap.size, 0, none⟩) vs.length 32 vs (bytes_C (blk_new W (.cells (vs.map (Value.int .u8)).toArray 55)) (by omega)) (by omega) 0 hK)
  have HF := Aside0.mk (Fr.of_below (base := base) (p := p) hba (by omega))
  rw [hv] at HA
  have hsz : (vs.map (Value.int .u8)).length = 32 := by simp [hv]
  clear hba h
  go_enter Try.func81, Try.ntmps81
  go_wp2_with fail
  refine HA.out.mono ?_
  rintro e w3 ⟨rfl, hO, hF⟩
  have HO := Aside0.mk hO
  have HF2 := Aside0.mk (HF.out.trans hF)
  clear hO hF
  go_wp2_with fail
  all_goals first | go_end0 | ((try simp only [Exit.inBlock, Exit.then]); refine bodyPost_ret (results_none rfl _ _ _) rfl ?_)
  exact ⟨rfl, HO.out, HF2.out⟩

set_option maxHeartbeats 1000000 in
set_option maxRecDepth 100000 in
theorem ints_c (p base K : Nat) (W : World) (h : OutI W p base K) (A : Option Addr) (n c : Nat) (xs : List Int) (hn : xs.length = n) (hC : ∀ Y, Below base W Y → (Kd.int .i64).C Y A xs.length xs) (hK : K + 25000 ≤ 1000000000000) : Calls Try.prog 78 #[.pointer (some ⟨p, 0, none⟩), .slice A n c] W (OutPost W p base (K + 25000)) := by
  have e70 : ∀ args w, (callFunc 70 args).run Try.prog w = .ok (.enter 70 args) w := enters_of Try.func70 (by kernel_rfl) rfl
  have e84 : ∀ args w, (callFunc 84 args).run Try.prog w = .ok (.enter 84 args) w := enters_of Try.func84 (by kernel_rfl) rfl
  have HM := Aside0.mk (many_c p base K W h (n : Int) (by omega))
  have HC := Aside0.mk hC
  have HN := Aside0.mk hn
  have hb := h.le
  have hlt := h.lt
  clear h hC hn
  by_cases hs : (n : Int) ≤ 4096
  · rw [show decide ((n : Int) ≤ 4096) = true from by simpa using hs] at HM
    go_enter Try.func78, Try.ntmps78
    go_wp2_with fail
    refine HM.out.mono ?_
    rintro e w2 ⟨rfl, hO, hF⟩
    have HO := Aside0.mk hO
    have HF := Aside0.mk hF
    clear hO hF
    go_wp2_with fail
    go_loopg [4] n (fun gg s4 wr => ∃ kk : Nat, kk ≤ n ∧ n - kk ≤ gg ∧ s4 = .int .i64 kk ∧ Aside (OutI wr p base (K + 5 + 5 * kk)) ∧ Aside (Fr base p W wr))
    case atStart => exact ⟨0, by omega, by omega, rfl, HO.out, HF.out⟩
    clear HO HF
    case round =>
      obtain ⟨kk, hk, hgg, rfl, O, F⟩ := hrel
      by_cases hlt2 : kk < n
      · have hltz : (kk : Int) < (n : Int) := by omega
        have hCr := HC.out wr F.out.below
        have h0 : 0 < xs.length := by rw [HN.out]; omega
        obtain ⟨ad, hA, hcell⟩ := hCr.2.2 h0
        have hxk : xs[kk]? = some xs[kk]! := by rw [getElem!_pos xs kk (by rw [HN.out]; exact hlt2)]; exact List.getElem?_eq_getElem _
        obtain ⟨c1, hc1, hc2, hc3⟩ := hcell kk _ hxk
        have hc4 : wr.cell? (ad.add (kk * 1 + 0)) = some (.int .i64 xs[kk]!) := hc3 0 _ (by rw [hc2]; rfl)
        obtain ⟨bl, off, spot⟩ := ad
        have hspot : spot = none := by
          obtain ⟨c0, hd1, hd2, hd3⟩ := hcell 0 xs[0]! (by rw [getElem!_pos xs 0 h0]; exact List.getElem?_eq_getElem h0)
          have hd4 : wr.cell? ((⟨bl, off, spot⟩ : Addr).add (0 * 1 + 0)) = some (.int .i64 xs[0]!) := hd3 0 _ (by rw [hd2]; rfl)
          simpa [Addr.add] using World.cell?_spot hd4
        subst hspot hA
        have cx : wr.cell? ⟨bl, off + kk, none⟩ = some (.int .i64 xs[kk]!) := by
          rw [Addr.add_mid] at hc4
          simpa using hc4
        have HX := Aside0.mk (n_c p base (K + 5 + 5 * kk) wr O.out xs[kk]! (by omega))
        generalize xs[kk]! = xk at *
        clear hCr hcell hxk hc1 hc2 hc3 hc4
        go_wp2_with fail
        refine HX.out.mono ?_
        rintro e w3 ⟨rfl, hO, hF⟩
        have HO := Aside0.mk hO
        have HF := Aside0.mk (F.out.trans hF)
        clear hO hF cx
        go_wp2_with fail
        go_roundg (n - (kk + 1))
        case measure => omega
        case rel => exact ⟨kk + 1, by omega, by omega, by go_num, HO.out, HF.out⟩
      · have hltz : ¬ (kk : Int) < (n : Int) := by omega
        go_wp2_with fail
        all_goals first | go_end0 | ((try simp only [Exit.inBlock, Exit.then]); refine bodyPost_ret (results_none rfl _ _ _) rfl ?_)
        exact ⟨rfl, O.out.mono (by omega), F.out⟩
  · rw [show decide ((n : Int) ≤ 4096) = false from by simp; omega] at HM
    go_enter Try.func78, Try.ntmps78
    go_wp2_with fail
    refine HM.out.mono ?_
    rintro e w2 ⟨rfl, hO, hF⟩
    have HO := Aside0.mk hO
    have HF := Aside0.mk hF
    clear hO hF
    go_wp2_with fail
    all_goals first | go_end0 | ((try simp only [Exit.inBlock, Exit.then]); refine bodyPost_ret (results_none rfl _ _ _) rfl ?_)
    exact ⟨rfl, HO.out.mono (by omega), HF.out⟩
end Go.Proofs.Ytpjachbmllklgaa.Rng
end
section
/- What the reference lays: councils, heads, signed heads, commands, entries, records. -/
namespace Go.Proofs.Ytpjachbmllklgaa.Rng
open Go.RowKit Go.Proofs.YtpjachbmllklgaaW.PrintWords Go.Proofs.Ytpjachbmllklgaa.Kinds
set_option linter.unusedVariables false
set_option linter.unusedSimpArgs false
attribute [local go_sem] Oper.semAt_some

/-- Cells in the midst of a box. -/
theorem range_sub {W : World} {g : Nat} {cs : List Value} {t : TypeId} {fr : Nat × Nat} (h : W.heap[g]? = some (.cells cs.toArray t fr)) (o : Nat) (sub : List Value) (hs : (cs.drop o).take sub.length = sub) : W.rangeAt g o sub := by
  intro i u hi
  have hlt := (List.getElem?_eq_some_iff.1 hi).1
  simp only [World.cell?, h]
  rw [← hs, List.getElem?_take, if_pos hlt, List.getElem?_drop] at hi
  simpa using hi
theorem cell_hp {W : World} {g i : Nat} {cells : Array Value} {t : TypeId} {fr : Nat × Nat} {v : Value} (h : W.heap[g]? = some (.cells cells t fr)) (hi : cells[i]? = some v) : W.cell? ⟨g, i, none⟩ = some v := by
  simp only [World.cell?, h]
  exact hi
theorem size55 : (Try.prog.info? 55).map (·.size) = some 32 := by kernel_rfl
theorem size57 : (Try.prog.info? 57).map (·.size) = some 38 := by kernel_rfl
theorem size67 : (Try.prog.info? 67).map (·.size) = some 65 := by kernel_rfl
theorem size69 : (Try.prog.info? 69).map (·.size) = some 97 := by kernel_rfl

set_option maxHeartbeats 1000000 in
set_option maxRecDepth 100000 in
theorem cou_c (p base K : Nat) (W : World) (h : OutI W p base K) (A : Option Addr) (n c : Nat) (B : Option Addr) (m d : Nat) (xs ys : List Int) (hx : xs.length = n) (hy : ys.length = m) (hA : ∀ Y, Below base W Y → (Kd.int .i64).C Y A xs.length xs) (hB : ∀ Y, Below base W Y → (Kd.int .i64).C Y B ys.length ys) (hK : K + 50000 ≤ 1000000000000) : Calls Try.prog 72 #[.pointer (some ⟨p, 0, none⟩), .agg #[.slice A n c, .slice B m d]] W (OutPost W p base (K + 50000)) := by
  have e78 : ∀ args w, (callFunc 78 args).run Try.prog w = .ok (.enter 78 args) w := enters_of Try.func78 (by kernel_rfl) rfl
  have hb := h.le
  have hlt := h.lt
  have hba : Below W.heap.size W (W.alloc (.cells ([.slice A n c, .slice B m d]).toArray 24)) := (Below.refl _ W).alloc (Nat.le_refl _) _
  have HO := Aside0.mk (h.below hba)
  have HF := Aside0.mk (Fr.of_below (base := base) (p := p) hba (by omega))
  have HK0 := Aside0.mk (blk_new W (.cells ([.slice A n c, .slice B m d]).toArray 24))
  have hne : W.heap.size ≠ p := by omega
  have HA := Aside0.mk hA
  have HB := Aside0.mk hB
  have HXL := Aside0.mk hx
  have HYL := Aside0.mk hy
  clear hA hB hx hy h hba
  go_enter Try.func72, Try.ntmps72
  have kb := HK0.out
  have c0 : (W.alloc (.cells ([.slice A n c, .slice B m d]).toArray 24)).cell? ⟨W.heap.size, 0, none⟩ = some (.slice A n c) := cell_hp kb (by rfl)
  have HX := Aside0.mk (ints_c p base K (W.alloc (.cells ([.slice A n c, .slice B m d]).toArray 24)) HO.out A n c xs HXL.out (fun Y hY => HA.out Y (HF.out.below.trans hY)) (by omega))
  clear HO
  go_wp2_with (fail)
  refine HX.out.mono ?_
  rintro e w1 ⟨rfl, hO, hF⟩
  have HO := Aside0.mk hO
  have HK1 := Aside0.mk ((hF.typed W.heap.size _ _ _ kb (by decide) hne).trans kb)
  have HF := Aside0.mk (HF.out.trans hF)
  clear hO hF HX kb c0
  have kb := HK1.out
  have c0 : w1.cell? ⟨W.heap.size, 1, none⟩ = some (.slice B m d) := cell_hp kb (by rfl)
  have HX := Aside0.mk (ints_c p base (K + 25000) w1 HO.out B m d ys HYL.out (fun Y hY => HB.out Y (HF.out.below.trans hY)) (by omega))
  clear HO
  go_wp2_with (fail)
  refine HX.out.mono ?_
  rintro e w2 ⟨rfl, hO, hF⟩
  have HO := Aside0.mk hO
  have HK2 := Aside0.mk ((hF.typed W.heap.size _ _ _ kb (by decide) hne).trans kb)
  have HF := Aside0.mk (HF.out.trans hF)
  clear hO hF HX kb c0
  go_wp2_with fail
  all_goals first | go_end0 | ((try simp only [Exit.inBlock, Exit.then]); refine bodyPost_ret (results_none rfl _ _ _) rfl ?_)
  exact ⟨rfl, HO.out, HF.out⟩

theorem head_parts (x : Head) (h1 : x.2.1.length = 32) (h2 : x.2.2.length = 32) : ((headCells x).drop 1).take (x.2.1.map (Value.int .u8)).length = x.2.1.map (Value.int .u8) ∧ ((headCells x).drop 33).take (x.2.2.map (Value.int .u8)).length = x.2.2.map (Value.int .u8) := by
  constructor
  · show List.take _ (x.2.1.map (Value.int .u8) ++ x.2.2.map (Value.int .u8)) = _
    rw [List.take_append_of_le_length (Nat.le_refl _), List.take_of_length_le (Nat.le_refl _)]
  · show List.take _ (List.drop 32 (x.2.1.map (Value.int .u8) ++ x.2.2.map (Value.int .u8))) = _
    rw [List.drop_append, List.drop_of_length_le (by simp [h1]), List.nil_append]
    simp only [List.length_map, h1, Nat.sub_self, List.drop_zero]
    exact List.take_of_length_le (by simp)
theorem head_len (x : Head) (h1 : x.2.1.length = 32) (h2 : x.2.2.length = 32) : (headCells x).length = 65 := by simp [headCells, h1, h2]
theorem sgn_parts (x : Sgn) (h1 : x.1.2.1.length = 32) (h2 : x.1.2.2.length = 32) : ((sgnCells x).drop 0).take (headCells x.1).length = headCells x.1 ∧ ((sgnCells x).drop 65).take (x.2.map (Value.int .u8)).length = x.2.map (Value.int .u8) := by
  have hl := head_len x.1 h1 h2
  unfold sgnCells
  constructor
  · rw [List.drop_zero, List.take_append_of_le_length (Nat.le_refl _), List.take_of_length_le (Nat.le_refl _)]
  · rw [List.drop_append, List.drop_of_length_le (by omega), List.nil_append, hl, Nat.sub_self, List.drop_zero]
    exact List.take_of_length_le (Nat.le_refl _)
theorem cmd_dig (x : Cmd) : ((cmdCells x).drop 6).take (x.2.2.2.2.2.2.map (Value.int .u8)).length = x.2.2.2.2.2.2.map (Value.int .u8) := by
  show List.take _ (x.2.2.2.2.2.2.map (Value.int .u8)) = _
  exact List.take_of_length_le (Nat.le_refl _)
theorem cmd_len (x : Cmd) (h : x.2.2.2.2.2.2.length = 32) : (cmdCells x).length = 38 := by simp [cmdCells, h]
theorem ent_cmd (x : Ent) (V L : Value) : ((entHd x ++ [V, L]).drop 3).take (cmdCells x.2.2.2.1).length = cmdCells x.2.2.2.1 := by
  show List.take _ (cmdCells x.2.2.2.1 ++ [V, L]) = _
  rw [List.take_append_of_le_length (Nat.le_refl _), List.take_of_length_le (Nat.le_refl _)]
theorem ent_at41 (x : Ent) (V L : Value) (h : x.2.2.2.1.2.2.2.2.2.2.length = 32) : (entHd x ++ [V, L])[41]? = some V ∧ (entHd x ++ [V, L])[42]? = some L := by
  have hl := entHd_length x h
  constructor
  · rw [List.getElem?_append_right (by omega), hl]; rfl
  · rw [List.getElem?_append_right (by omega), hl]; rfl

set_option maxHeartbeats 1000000 in
set_option maxRecDepth 100000 in
theorem head_c (p base K : Nat) (W : World) (h : OutI W p base K) (x : Head) (h1 : x.2.1.length = 32) (h2 : x.2.2.length = 32) (hK : K + 100 ≤ 1000000000000) : Calls Try.prog 80 #[.pointer (some ⟨p, 0, none⟩), .agg (headCells x).toArray] W (OutPost W p base (K + 100)) := by
  have e70 : ∀ args w, (callFunc 70 args).run Try.prog w = .ok (.enter 70 args) w := enters_of Try.func70 (by kernel_rfl) rfl
  have e81 : ∀ args w, (callFunc 81 args).run Try.prog w = .ok (.enter 81 args) w := enters_of Try.func81 (by kernel_rfl) rfl
  have hb := h.le
  have hlt := h.lt
  have hba : Below W.heap.size W (W.alloc (.cells (headCells x).toArray 67)) := (Below.refl _ W).alloc (Nat.le_refl _) _
  have HO := Aside0.mk (h.below hba)
  have HF := Aside0.mk (Fr.of_below (base := base) (p := p) hba (by omega))
  have HK0 := Aside0.mk (blk_new W (.cells (headCells x).toArray 67))
  have hne : W.heap.size ≠ p := by omega
  have h1' := Aside0.mk h1
  have h2' := Aside0.mk h2
  have HP := Aside0.mk (head_parts x h1 h2)
  have hcl := head_len x h1 h2
  clear h hba h1 h2
  go_enter Try.func80, Try.ntmps80
  have kb := HK0.out
  have c0 : (W.alloc (.cells (headCells x).toArray 67)).cell? ⟨W.heap.size, 0, none⟩ = some (.int .i64 (x.1)) := cell_hp kb (by rfl)
  have HX := Aside0.mk (n_c p base K (W.alloc (.cells (headCells x).toArray 67)) HO.out (x.1) (by omega))
  clear HO
  go_wp2_with (fail)
  refine HX.out.mono ?_
  rintro e w1 ⟨rfl, hO, hF⟩
  have HO := Aside0.mk hO
  have HK1 := Aside0.mk ((hF.typed W.heap.size _ _ _ kb (by decide) hne).trans kb)
  have HF := Aside0.mk (HF.out.trans hF)
  clear hO hF HX kb c0
  have kb := HK1.out
  have r0 := range_sub kb 1 ((x.2.1).map (Value.int .u8)) (HP.out.1)
  have hi0 : (Try.prog.info? 55).map (·.size) = some ((x.2.1).map (Value.int .u8)).length := by rw [List.length_map, h1'.out]; exact size55
  have HX := Aside0.mk (d_c p base (K + 5) w1 HO.out (x.2.1) h1'.out (by omega))
  clear HO
  go_wp2_with (refine wpList_load_mid rfl 55 (.tmp 9) rfl W.heap.size 1 rfl ((x.2.1).map (Value.int .u8)) _ r0 Try.underlying55 rfl hi0 ?_)
  refine HX.out.mono ?_
  rintro e w2 ⟨rfl, hO, hF⟩
  have HO := Aside0.mk hO
  have HK2 := Aside0.mk ((hF.typed W.heap.size _ _ _ kb (by decide) hne).trans kb)
  have HF := Aside0.mk (HF.out.trans hF)
  clear hO hF HX kb r0 hi0
  have kb := HK2.out
  have r0 := range_sub kb 33 ((x.2.2).map (Value.int .u8)) (HP.out.2)
  have hi0 : (Try.prog.info? 55).map (·.size) = some ((x.2.2).map (Value.int .u8)).length := by rw [List.length_map, h2'.out]; exact size55
  have HX := Aside0.mk (d_c p base (K + 37) w2 HO.out (x.2.2) h2'.out (by omega))
  clear HO
  go_wp2_with (refine wpList_load_mid rfl 55 (.tmp 13) rfl W.heap.size 33 rfl ((x.2.2).map (Value.int .u8)) _ r0 Try.underlying55 rfl hi0 ?_)
  refine HX.out.mono ?_
  rintro e w3 ⟨rfl, hO, hF⟩
  have HO := Aside0.mk hO
  have HK3 := Aside0.mk ((hF.typed W.heap.size _ _ _ kb (by decide) hne).trans kb)
  have HF := Aside0.mk (HF.out.trans hF)
  clear hO hF HX kb r0 hi0
  go_wp2_with fail
  all_goals first | go_end0 | ((try simp only [Exit.inBlock, Exit.then]); refine bodyPost_ret (results_none rfl _ _ _) rfl ?_)
  exact ⟨rfl, HO.out.mono (by omega), HF.out⟩

set_option maxHeartbeats 1000000 in
set_option maxRecDepth 100000 in
theorem sgn_c (p base K : Nat) (W : World) (h : OutI W p base K) (x : Sgn) (h1 : x.1.2.1.length = 32) (h2 : x.1.2.2.length = 32) (h3 : x.2.length = 32) (hK : K + 200 ≤ 1000000000000) : Calls Try.prog 74 #[.pointer (some ⟨p, 0, none⟩), .agg (sgnCells x).toArray] W (OutPost W p base (K + 200)) := by
  have e80 : ∀ args w, (callFunc 80 args).run Try.prog w = .ok (.enter 80 args) w := enters_of Try.func80 (by kernel_rfl) rfl
  have e81 : ∀ args w, (callFunc 81 args).run Try.prog w = .ok (.enter 81 args) w := enters_of Try.func81 (by kernel_rfl) rfl
  have hb := h.le
  have hlt := h.lt
  have hba : Below W.heap.size W (W.alloc (.cells (sgnCells x).toArray 69)) := (Below.refl _ W).alloc (Nat.le_refl _) _
  have HO := Aside0.mk (h.below hba)
  have HF := Aside0.mk (Fr.of_below (base := base) (p := p) hba (by omega))
  have HK0 := Aside0.mk (blk_new W (.cells (sgnCells x).toArray 69))
  have hne : W.heap.size ≠ p := by omega
  have h1' := Aside0.mk h1
  have h2' := Aside0.mk h2
  have h3' := Aside0.mk h3
  have HP := Aside0.mk (sgn_parts x h1 h2)
  have hcl := sgnCells_length x h1 h2 h3
  clear h hba h1 h2 h3
  go_enter Try.func74, Try.ntmps74
  have kb := HK0.out
  have r0 := range_sub kb 0 (headCells x.1) (HP.out.1)
  have hi0 : (Try.prog.info? 67).map (·.size) = some (headCells x.1).length := by rw [head_len x.1 h1'.out h2'.out]; exact size67
  have HX := Aside0.mk (head_c p base K (W.alloc (.cells (sgnCells x).toArray 69)) HO.out x.1 h1'.out h2'.out (by omega))
  clear HO
  go_wp2_with (refine wpList_load_mid rfl 67 (.tmp 5) rfl W.heap.size 0 rfl (headCells x.1) _ r0 Try.underlying67 rfl hi0 ?_)
  refine HX.out.mono ?_
  rintro e w1 ⟨rfl, hO, hF⟩
  have HO := Aside0.mk hO
  have HK1 := Aside0.mk ((hF.typed W.heap.size _ _ _ kb (by decide) hne).trans kb)
  have HF := Aside0.mk (HF.out.trans hF)
  clear hO hF HX kb r0 hi0
  have kb := HK1.out
  have r0 := range_sub kb 65 ((x.2).map (Value.int .u8)) (HP.out.2)
  have hi0 : (Try.prog.info? 55).map (·.size) = some ((x.2).map (Value.int .u8)).length := by rw [List.length_map, h3'.out]; exact size55
  have HX := Aside0.mk (d_c p base (K + 100) w1 HO.out (x.2) h3'.out (by omega))
  clear HO
  go_wp2_with (refine wpList_load_mid rfl 55 (.tmp 9) rfl W.heap.size 65 rfl ((x.2).map (Value.int .u8)) _ r0 Try.underlying55 rfl hi0 ?_)
  refine HX.out.mono ?_
  rintro e w2 ⟨rfl, hO, hF⟩
  have HO := Aside0.mk hO
  have HK2 := Aside0.mk ((hF.typed W.heap.size _ _ _ kb (by decide) hne).trans kb)
  have HF := Aside0.mk (HF.out.trans hF)
  clear hO hF HX kb r0 hi0
  go_wp2_with fail
  all_goals first | go_end0 | ((try simp only [Exit.inBlock, Exit.then]); refine bodyPost_ret (results_none rfl _ _ _) rfl ?_)
  exact ⟨rfl, HO.out.mono (by omega), HF.out⟩

set_option maxHeartbeats 1000000 in
set_option maxRecDepth 100000 in
theorem cmd_c (p base K : Nat) (W : World) (h : OutI W p base K) (x : Cmd) (h1 : x.2.2.2.2.2.2.length = 32) (hK : K + 140000 ≤ 1000000000000) : Calls Try.prog 77 #[.pointer (some ⟨p, 0, none⟩), .agg (cmdCells x).toArray] W (OutPost W p base (K + 140000)) := by
  have e70 : ∀ args w, (callFunc 70 args).run Try.prog w = .ok (.enter 70 args) w := enters_of Try.func70 (by kernel_rfl) rfl
  have e73 : ∀ args w, (callFunc 73 args).run Try.prog w = .ok (.enter 73 args) w := enters_of Try.func73 (by kernel_rfl) rfl
  have e81 : ∀ args w, (callFunc 81 args).run Try.prog w = .ok (.enter 81 args) w := enters_of Try.func81 (by kernel_rfl) rfl
  have hb := h.le
  have hlt := h.lt
  have hba : Below W.heap.size W (W.alloc (.cells (cmdCells x).toArray 57)) := (Below.refl _ W).alloc (Nat.le_refl _) _
  have HO := Aside0.mk (h.below hba)
  have HF := Aside0.mk (Fr.of_below (base := base) (p := p) hba (by omega))
  have HK0 := Aside0.mk (blk_new W (.cells (cmdCells x).toArray 57))
  have hne : W.heap.size ≠ p := by omega
  have h1' := Aside0.mk h1
  have hcl := cmd_len x h1
  clear h hba h1
  go_enter Try.func77, Try.ntmps77
  have kb := HK0.out
  have c0 : (W.alloc (.cells (cmdCells x).toArray 57)).cell? ⟨W.heap.size, 0, none⟩ = some (.int .i64 (x.1)) := cell_hp kb (by rfl)
  have HX := Aside0.mk (n_c p base K (W.alloc (.cells (cmdCells x).toArray 57)) HO.out (x.1) (by omega))
  clear HO
  go_wp2_with (fail)
  refine HX.out.mono ?_
  rintro e w1 ⟨rfl, hO, hF⟩
  have HO := Aside0.mk hO
  have HK1 := Aside0.mk ((hF.typed W.heap.size _ _ _ kb (by decide) hne).trans kb)
  have HF := Aside0.mk (HF.out.trans hF)
  clear hO hF HX kb c0
  have kb := HK1.out
  have c0 : w1.cell? ⟨W.heap.size, 1, none⟩ = some (.int .i64 (x.2.1)) := cell_hp kb (by rfl)
  have HX := Aside0.mk (n_c p base (K + 5) w1 HO.out (x.2.1) (by omega))
  clear HO
  go_wp2_with (fail)
  refine HX.out.mono ?_
  rintro e w2 ⟨rfl, hO, hF⟩
  have HO := Aside0.mk hO
  have HK2 := Aside0.mk ((hF.typed W.heap.size _ _ _ kb (by decide) hne).trans kb)
  have HF := Aside0.mk (HF.out.trans hF)
  clear hO hF HX kb c0
  have kb := HK2.out
  have c0 : w2.cell? ⟨W.heap.size, 2, none⟩ = some (.int .i64 (x.2.2.1)) := cell_hp kb (by rfl)
  have HX := Aside0.mk (n_c p base (K + 10) w2 HO.out (x.2.2.1) (by omega))
  clear HO
  go_wp2_with (fail)
  refine HX.out.mono ?_
  rintro e w3 ⟨rfl, hO, hF⟩
  have HO := Aside0.mk hO
  have HK3 := Aside0.mk ((hF.typed W.heap.size _ _ _ kb (by decide) hne).trans kb)
  have HF := Aside0.mk (HF.out.trans hF)
  clear hO hF HX kb c0
  have kb := HK3.out
  have c0 : w3.cell? ⟨W.heap.size, 3, none⟩ = some (.string (x.2.2.2.1)) := cell_hp kb (by rfl)
  have HX := Aside0.mk (s_c p base (K + 15) w3 HO.out (x.2.2.2.1) (by omega))
  clear HO
  go_wp2_with (fail)
  refine HX.out.mono ?_
  rintro e w4 ⟨rfl, hO, hF⟩
  have HO := Aside0.mk hO
  have HK4 := Aside0.mk ((hF.typed W.heap.size _ _ _ kb (by decide) hne).trans kb)
  have HF := Aside0.mk (HF.out.trans hF)
  clear hO hF HX kb c0
  have kb := HK4.out
  have c0 : w4.cell? ⟨W.heap.size, 4, none⟩ = some (.string (x.2.2.2.2.1)) := cell_hp kb (by rfl)
  have HX := Aside0.mk (s_c p base (K + 65556) w4 HO.out (x.2.2.2.2.1) (by omega))
  clear HO
  go_wp2_with (fail)
  refine HX.out.mono ?_
  rintro e w5 ⟨rfl, hO, hF⟩
  have HO := Aside0.mk hO
  have HK5 := Aside0.mk ((hF.typed W.heap.size _ _ _ kb (by decide) hne).trans kb)
  have HF := Aside0.mk (HF.out.trans hF)
  clear hO hF HX kb c0
  have kb := HK5.out
  have c0 : w5.cell? ⟨W.heap.size, 5, none⟩ = some (.int .i64 (x.2.2.2.2.2.1)) := cell_hp kb (by rfl)
  have HX := Aside0.mk (n_c p base (K + 131097) w5 HO.out (x.2.2.2.2.2.1) (by omega))
  clear HO
  go_wp2_with (fail)
  refine HX.out.mono ?_
  rintro e w6 ⟨rfl, hO, hF⟩
  have HO := Aside0.mk hO
  have HK6 := Aside0.mk ((hF.typed W.heap.size _ _ _ kb (by decide) hne).trans kb)
  have HF := Aside0.mk (HF.out.trans hF)
  clear hO hF HX kb c0
  have kb := HK6.out
  have r0 := range_sub kb 6 ((x.2.2.2.2.2.2).map (Value.int .u8)) (cmd_dig x)
  have hi0 : (Try.prog.info? 55).map (·.size) = some ((x.2.2.2.2.2.2).map (Value.int .u8)).length := by rw [List.length_map, h1'.out]; exact size55
  have HX := Aside0.mk (d_c p base (K + 131102) w6 HO.out (x.2.2.2.2.2.2) h1'.out (by omega))
  clear HO
  go_wp2_with (refine wpList_load_mid rfl 55 (.tmp 29) rfl W.heap.size 6 rfl ((x.2.2.2.2.2.2).map (Value.int .u8)) _ r0 Try.underlying55 rfl hi0 ?_)
  refine HX.out.mono ?_
  rintro e w7 ⟨rfl, hO, hF⟩
  have HO := Aside0.mk hO
  have HK7 := Aside0.mk ((hF.typed W.heap.size _ _ _ kb (by decide) hne).trans kb)
  have HF := Aside0.mk (HF.out.trans hF)
  clear hO hF HX kb r0 hi0
  go_wp2_with fail
  all_goals first | go_end0 | ((try simp only [Exit.inBlock, Exit.then]); refine bodyPost_ret (results_none rfl _ _ _) rfl ?_)
  exact ⟨rfl, HO.out.mono (by omega), HF.out⟩

set_option maxHeartbeats 1000000 in
set_option maxRecDepth 100000 in
theorem ent_c (p base K : Nat) (W : World) (h : OutI W p base K) (x : Ent) (cs : List Value) (A : Option Addr) (n c : Nat) (B : Option Addr) (m d : Nat) (hcs : cs = entHd x ++ [Value.slice A n c, Value.slice B m d]) (h1 : x.2.2.2.1.2.2.2.2.2.2.length = 32) (hx : x.2.2.2.2.1.length = n) (hy : x.2.2.2.2.2.length = m) (hA : ∀ Y, Below base W Y → (Kd.int .i64).C Y A x.2.2.2.2.1.length x.2.2.2.2.1) (hB : ∀ Y, Below base W Y → (Kd.int .i64).C Y B x.2.2.2.2.2.length x.2.2.2.2.2) (hK : K + 200000 ≤ 1000000000000) : Calls Try.prog 71 #[.pointer (some ⟨p, 0, none⟩), .agg cs.toArray] W (OutPost W p base (K + 200000)) := by
  have e70 : ∀ args w, (callFunc 70 args).run Try.prog w = .ok (.enter 70 args) w := enters_of Try.func70 (by kernel_rfl) rfl
  have e72 : ∀ args w, (callFunc 72 args).run Try.prog w = .ok (.enter 72 args) w := enters_of Try.func72 (by kernel_rfl) rfl
  have e77 : ∀ args w, (callFunc 77 args).run Try.prog w = .ok (.enter 77 args) w := enters_of Try.func77 (by kernel_rfl) rfl
  have hb := h.le
  have hlt := h.lt
  have hba : Below W.heap.size W (W.alloc (.cells (cs).toArray 59)) := (Below.refl _ W).alloc (Nat.le_refl _) _
  have HO := Aside0.mk (h.below hba)
  have HF := Aside0.mk (Fr.of_below (base := base) (p := p) hba (by omega))
  have HK0 := Aside0.mk (blk_new W (.cells (cs).toArray 59))
  have hne : W.heap.size ≠ p := by omega
  have h1' := Aside0.mk h1
  have hcl : cs.length = 43 := by rw [hcs]; simp [entHd_length x h1]
  have HCS := Aside0.mk hcs
  have HA := Aside0.mk hA
  have HB := Aside0.mk hB
  have HXL := Aside0.mk hx
  have HYL := Aside0.mk hy
  have H41 := Aside0.mk (ent_at41 x (.slice A n c) (.slice B m d) h1)
  clear h hba h1 hA hB hx hy hcs
  go_enter Try.func71, Try.ntmps71
  have kb := HK0.out
  have c0 : (W.alloc (.cells (cs).toArray 59)).cell? ⟨W.heap.size, 0, none⟩ = some (.int .i64 (x.1)) := cell_hp kb (by rw [HCS.out]; rfl)
  have HX := Aside0.mk (n_c p base K (W.alloc (.cells (cs).toArray 59)) HO.out (x.1) (by omega))
  clear HO
  go_wp2_with (fail)
  refine HX.out.mono ?_
  rintro e w1 ⟨rfl, hO, hF⟩
  have HO := Aside0.mk hO
  have HK1 := Aside0.mk ((hF.typed W.heap.size _ _ _ kb (by decide) hne).trans kb)
  have HF := Aside0.mk (HF.out.trans hF)
  clear hO hF HX kb c0
  have kb := HK1.out
  have c0 : w1.cell? ⟨W.heap.size, 1, none⟩ = some (.int .i64 (x.2.1)) := cell_hp kb (by rw [HCS.out]; rfl)
  have HX := Aside0.mk (n_c p base (K + 5) w1 HO.out (x.2.1) (by omega))
  clear HO
  go_wp2_with (fail)
  refine HX.out.mono ?_
  rintro e w2 ⟨rfl, hO, hF⟩
  have HO := Aside0.mk hO
  have HK2 := Aside0.mk ((hF.typed W.heap.size _ _ _ kb (by decide) hne).trans kb)
  have HF := Aside0.mk (HF.out.trans hF)
  clear hO hF HX kb c0
  have kb := HK2.out
  have c0 : w2.cell? ⟨W.heap.size, 2, none⟩ = some (.int .i64 (x.2.2.1)) := cell_hp kb (by rw [HCS.out]; rfl)
  have HX := Aside0.mk (n_c p base (K + 10) w2 HO.out (x.2.2.1) (by omega))
  clear HO
  go_wp2_with (fail)
  refine HX.out.mono ?_
  rintro e w3 ⟨rfl, hO, hF⟩
  have HO := Aside0.mk hO
  have HK3 := Aside0.mk ((hF.typed W.heap.size _ _ _ kb (by decide) hne).trans kb)
  have HF := Aside0.mk (HF.out.trans hF)
  clear hO hF HX kb c0
  have kb := HK3.out
  have r0 := range_sub kb 3 (cmdCells x.2.2.2.1) (by rw [HCS.out]; exact ent_cmd x _ _)
  have hi0 : (Try.prog.info? 57).map (·.size) = some (cmdCells x.2.2.2.1).length := by rw [cmd_len _ h1'.out]; exact size57
  have HX := Aside0.mk (cmd_c p base (K + 15) w3 HO.out x.2.2.2.1 h1'.out (by omega))
  clear HO
  go_wp2_with (refine wpList_load_mid rfl 57 (.tmp 17) rfl W.heap.size 3 rfl (cmdCells x.2.2.2.1) _ r0 Try.underlying57 rfl hi0 ?_)
  refine HX.out.mono ?_
  rintro e w4 ⟨rfl, hO, hF⟩
  have HO := Aside0.mk hO
  have HK4 := Aside0.mk ((hF.typed W.heap.size _ _ _ kb (by decide) hne).trans kb)
  have HF := Aside0.mk (HF.out.trans hF)
  clear hO hF HX kb r0 hi0
  have kb := HK4.out
  have c41 : w4.cell? ⟨W.heap.size, 41, none⟩ = some (.slice A n c) := cell_hp kb (by rw [HCS.out]; first | simpa using H41.out.1 | simpa using H41.out.2)
  have c42 : w4.cell? ⟨W.heap.size, 42, none⟩ = some (.slice B m d) := cell_hp kb (by rw [HCS.out]; first | simpa using H41.out.1 | simpa using H41.out.2)
  have HX := Aside0.mk (cou_c p base (K + 140015) w4 HO.out A n c B m d x.2.2.2.2.1 x.2.2.2.2.2 HXL.out HYL.out (fun Y hY => HA.out Y (HF.out.below.trans hY)) (fun Y hY => HB.out Y (HF.out.below.trans hY)) (by omega))
  clear HO
  go_wp2_with (fail)
  refine HX.out.mono ?_
  rintro e w5 ⟨rfl, hO, hF⟩
  have HO := Aside0.mk hO
  have HK5 := Aside0.mk ((hF.typed W.heap.size _ _ _ kb (by decide) hne).trans kb)
  have HF := Aside0.mk (HF.out.trans hF)
  clear hO hF HX kb c41 c42
  go_wp2_with fail
  all_goals first | go_end0 | ((try simp only [Exit.inBlock, Exit.then]); refine bodyPost_ret (results_none rfl _ _ _) rfl ?_)
  exact ⟨rfl, HO.out.mono (by omega), HF.out⟩

/-- A record's cells. -/
def recCells (k t v : Int) (ecs : List Value) (i si st : Int) (V L : Value) (d : ByteArray) (sg : List Value) : List Value := [.int .i64 k, .int .i64 t, .int .i64 v] ++ (ecs ++ ([.int .i64 i, .int .i64 si, .int .i64 st, V, L, .string d] ++ sg))
theorem rec_ent (k t v : Int) (ecs : List Value) (i si st : Int) (V L : Value) (d : ByteArray) (sg : List Value) : ((recCells k t v ecs i si st V L d sg).drop 3).take ecs.length = ecs := by
  show List.take _ (ecs ++ _) = _
  rw [List.take_append_of_le_length (Nat.le_refl _), List.take_of_length_le (Nat.le_refl _)]
theorem rec_mid (k t v : Int) (ecs : List Value) (i si st : Int) (V L : Value) (d : ByteArray) (sg : List Value) (h : ecs.length = 43) (j : Nat) : (recCells k t v ecs i si st V L d sg)[46 + j]? = ([.int .i64 i, .int .i64 si, .int .i64 st, V, L, .string d] ++ sg)[j]? := by
  unfold recCells
  rw [List.getElem?_append_right (by show 3 ≤ 46 + j; omega), List.getElem?_append_right (by simp; omega)]
  congr 1
  simp
  omega
theorem rec_sgn (k t v : Int) (ecs : List Value) (i si st : Int) (V L : Value) (d : ByteArray) (sg : List Value) (h : ecs.length = 43) : ((recCells k t v ecs i si st V L d sg).drop 52).take sg.length = sg := by
  unfold recCells
  rw [List.drop_append, List.drop_of_length_le (by show 3 ≤ 52; decide), List.nil_append]
  rw [show 52 - ([Value.int .i64 k, .int .i64 t, .int .i64 v] : List Value).length = 49 from rfl]
  rw [List.drop_append, List.drop_of_length_le (by omega), List.nil_append, h]
  show List.take _ sg = sg
  exact List.take_of_length_le (Nat.le_refl _)

set_option maxHeartbeats 1000000 in
set_option maxRecDepth 100000 in
theorem rec_c (p base K : Nat) (W : World) (h : OutI W p base K) (k tm v : Int) (x : Ent) (ecs : List Value) (A : Option Addr) (n c : Nat) (B : Option Addr) (m d : Nat) (i si st : Int) (Va : Option Addr) (vn vc : Nat) (La : Option Addr) (ln lc : Nat) (dt : ByteArray) (sx : Sgn) (vs ls : List Int) (rs : List Value) (hrs : rs = recCells k tm v ecs i si st (.slice Va vn vc) (.slice La ln lc) dt (sgnCells sx)) (hecs : ecs = entHd x ++ [Value.slice A n c, Value.slice B m d]) (h1 : x.2.2.2.1.2.2.2.2.2.2.length = 32) (hx : x.2.2.2.2.1.length = n) (hy : x.2.2.2.2.2.length = m) (hA : ∀ Y, Below base W Y → (Kd.int .i64).C Y A x.2.2.2.2.1.length x.2.2.2.2.1) (hB : ∀ Y, Below base W Y → (Kd.int .i64).C Y B x.2.2.2.2.2.length x.2.2.2.2.2) (hvs : vs.length = vn) (hls : ls.length = ln) (hV : ∀ Y, Below base W Y → (Kd.int .i64).C Y Va vs.length vs) (hL : ∀ Y, Below base W Y → (Kd.int .i64).C Y La ls.length ls) (g1 : sx.1.2.1.length = 32) (g2 : sx.1.2.2.length = 32) (g3 : sx.2.length = 32) (hK : K + 400000 ≤ 1000000000000) : Calls Try.prog 68 #[.pointer (some ⟨p, 0, none⟩), .agg rs.toArray] W (OutPost W p base (K + 400000)) := by
  have e70 : ∀ args w, (callFunc 70 args).run Try.prog w = .ok (.enter 70 args) w := enters_of Try.func70 (by kernel_rfl) rfl
  have e71 : ∀ args w, (callFunc 71 args).run Try.prog w = .ok (.enter 71 args) w := enters_of Try.func71 (by kernel_rfl) rfl
  have e72 : ∀ args w, (callFunc 72 args).run Try.prog w = .ok (.enter 72 args) w := enters_of Try.func72 (by kernel_rfl) rfl
  have e73 : ∀ args w, (callFunc 73 args).run Try.prog w = .ok (.enter 73 args) w := enters_of Try.func73 (by kernel_rfl) rfl
  have e74 : ∀ args w, (callFunc 74 args).run Try.prog w = .ok (.enter 74 args) w := enters_of Try.func74 (by kernel_rfl) rfl
  have hb := h.le
  have hlt := h.lt
  have hba : Below W.heap.size W (W.alloc (.cells (rs).toArray 71)) := (Below.refl _ W).alloc (Nat.le_refl _) _
  have HO := Aside0.mk (h.below hba)
  have HF := Aside0.mk (Fr.of_below (base := base) (p := p) hba (by omega))
  have HK0 := Aside0.mk (blk_new W (.cells (rs).toArray 71))
  have hne : W.heap.size ≠ p := by omega
  have hel : ecs.length = 43 := by rw [hecs]; simp [entHd_length x h1]
  have hcl : rs.length = 149 := by rw [hrs]; simp [recCells, hel, sgnCells_length sx g1 g2 g3]
  have HEL := Aside0.mk hel
  have HRS := Aside0.mk hrs
  have HECS := Aside0.mk hecs
  have G := Aside0.mk (And.intro g1 (And.intro g2 g3))
  have h1' := Aside0.mk h1
  have HA := Aside0.mk hA
  have HB := Aside0.mk hB
  have HV := Aside0.mk hV
  have HLl := Aside0.mk hL
  have HXL := Aside0.mk hx
  have HYL := Aside0.mk hy
  have HVL := Aside0.mk hvs
  have HLL := Aside0.mk hls
  clear h hba hrs hecs g1 g2 g3 h1 hA hB hV hL hx hy hvs hls hel
  go_enter Try.func68, Try.ntmps68
  have kb := HK0.out
  have c0 : (W.alloc (.cells (rs).toArray 71)).cell? ⟨W.heap.size, 0, none⟩ = some (.int .i64 (k)) := cell_hp kb (by rw [HRS.out]; rfl)
  have HX := Aside0.mk (n_c p base K (W.alloc (.cells (rs).toArray 71)) HO.out (k) (by omega))
  clear HO
  go_wp2_with (fail)
  refine HX.out.mono ?_
  rintro e w1 ⟨rfl, hO, hF⟩
  have HO := Aside0.mk hO
  have HK1 := Aside0.mk ((hF.typed W.heap.size _ _ _ kb (by decide) hne).trans kb)
  have HF := Aside0.mk (HF.out.trans hF)
  clear hO hF HX kb c0
  have kb := HK1.out
  have c0 : w1.cell? ⟨W.heap.size, 1, none⟩ = some (.int .i64 (tm)) := cell_hp kb (by rw [HRS.out]; rfl)
  have HX := Aside0.mk (n_c p base (K + 5) w1 HO.out (tm) (by omega))
  clear HO
  go_wp2_with (fail)
  refine HX.out.mono ?_
  rintro e w2 ⟨rfl, hO, hF⟩
  have HO := Aside0.mk hO
  have HK2 := Aside0.mk ((hF.typed W.heap.size _ _ _ kb (by decide) hne).trans kb)
  have HF := Aside0.mk (HF.out.trans hF)
  clear hO hF HX kb c0
  have kb := HK2.out
  have c0 : w2.cell? ⟨W.heap.size, 2, none⟩ = some (.int .i64 (v)) := cell_hp kb (by rw [HRS.out]; rfl)
  have HX := Aside0.mk (n_c p base (K + 10) w2 HO.out (v) (by omega))
  clear HO
  go_wp2_with (fail)
  refine HX.out.mono ?_
  rintro e w3 ⟨rfl, hO, hF⟩
  have HO := Aside0.mk hO
  have HK3 := Aside0.mk ((hF.typed W.heap.size _ _ _ kb (by decide) hne).trans kb)
  have HF := Aside0.mk (HF.out.trans hF)
  clear hO hF HX kb c0
  have kb := HK3.out
  have r0 := range_sub kb 3 (ecs) (by rw [HRS.out]; exact rec_ent ..)
  have hi0 : (Try.prog.info? 59).map (·.size) = some (ecs).length := by rw [HEL.out]; exact size59
  have HX := Aside0.mk (ent_c p base (K + 15) w3 HO.out x ecs A n c B m d HECS.out h1'.out HXL.out HYL.out (fun Y hY => HA.out Y (HF.out.below.trans hY)) (fun Y hY => HB.out Y (HF.out.below.trans hY)) (by omega))
  clear HO
  go_wp2_with (refine wpList_load_mid rfl 59 (.tmp 17) rfl W.heap.size 3 rfl (ecs) _ r0 Try.underlying59 rfl hi0 ?_)
  refine HX.out.mono ?_
  rintro e w4 ⟨rfl, hO, hF⟩
  have HO := Aside0.mk hO
  have HK4 := Aside0.mk ((hF.typed W.heap.size _ _ _ kb (by decide) hne).trans kb)
  have HF := Aside0.mk (HF.out.trans hF)
  clear hO hF HX kb r0 hi0
  have kb := HK4.out
  have c0 : w4.cell? ⟨W.heap.size, 46, none⟩ = some (.int .i64 (i)) := cell_hp kb (by rw [HRS.out]; have := rec_mid k tm v ecs i si st (.slice Va vn vc) (.slice La ln lc) dt (sgnCells sx) HEL.out 0; simpa using this)
  have HX := Aside0.mk (n_c p base (K + 200015) w4 HO.out (i) (by omega))
  clear HO
  go_wp2_with (fail)
  refine HX.out.mono ?_
  rintro e w5 ⟨rfl, hO, hF⟩
  have HO := Aside0.mk hO
  have HK5 := Aside0.mk ((hF.typed W.heap.size _ _ _ kb (by decide) hne).trans kb)
  have HF := Aside0.mk (HF.out.trans hF)
  clear hO hF HX kb c0
  have kb := HK5.out
  have c0 : w5.cell? ⟨W.heap.size, 47, none⟩ = some (.int .i64 (si)) := cell_hp kb (by rw [HRS.out]; have := rec_mid k tm v ecs i si st (.slice Va vn vc) (.slice La ln lc) dt (sgnCells sx) HEL.out 1; simpa using this)
  have HX := Aside0.mk (n_c p base (K + 200020) w5 HO.out (si) (by omega))
  clear HO
  go_wp2_with (fail)
  refine HX.out.mono ?_
  rintro e w6 ⟨rfl, hO, hF⟩
  have HO := Aside0.mk hO
  have HK6 := Aside0.mk ((hF.typed W.heap.size _ _ _ kb (by decide) hne).trans kb)
  have HF := Aside0.mk (HF.out.trans hF)
  clear hO hF HX kb c0
  have kb := HK6.out
  have c0 : w6.cell? ⟨W.heap.size, 48, none⟩ = some (.int .i64 (st)) := cell_hp kb (by rw [HRS.out]; have := rec_mid k tm v ecs i si st (.slice Va vn vc) (.slice La ln lc) dt (sgnCells sx) HEL.out 2; simpa using this)
  have HX := Aside0.mk (n_c p base (K + 200025) w6 HO.out (st) (by omega))
  clear HO
  go_wp2_with (fail)
  refine HX.out.mono ?_
  rintro e w7 ⟨rfl, hO, hF⟩
  have HO := Aside0.mk hO
  have HK7 := Aside0.mk ((hF.typed W.heap.size _ _ _ kb (by decide) hne).trans kb)
  have HF := Aside0.mk (HF.out.trans hF)
  clear hO hF HX kb c0
  have kb := HK7.out
  have c49 : w7.cell? ⟨W.heap.size, 49, none⟩ = some (.slice Va vn vc) := cell_hp kb (by rw [HRS.out]; first | (have := rec_mid k tm v ecs i si st (.slice Va vn vc) (.slice La ln lc) dt (sgnCells sx) HEL.out 3; simpa using this) | (have := rec_mid k tm v ecs i si st (.slice Va vn vc) (.slice La ln lc) dt (sgnCells sx) HEL.out 4; simpa using this))
  have c50 : w7.cell? ⟨W.heap.size, 50, none⟩ = some (.slice La ln lc) := cell_hp kb (by rw [HRS.out]; first | (have := rec_mid k tm v ecs i si st (.slice Va vn vc) (.slice La ln lc) dt (sgnCells sx) HEL.out 3; simpa using this) | (have := rec_mid k tm v ecs i si st (.slice Va vn vc) (.slice La ln lc) dt (sgnCells sx) HEL.out 4; simpa using this))
  have HX := Aside0.mk (cou_c p base (K + 200030) w7 HO.out Va vn vc La ln lc vs ls HVL.out HLL.out (fun Y hY => HV.out Y (HF.out.below.trans hY)) (fun Y hY => HLl.out Y (HF.out.below.trans hY)) (by omega))
  clear HO
  go_wp2_with (fail)
  refine HX.out.mono ?_
  rintro e w8 ⟨rfl, hO, hF⟩
  have HO := Aside0.mk hO
  have HK8 := Aside0.mk ((hF.typed W.heap.size _ _ _ kb (by decide) hne).trans kb)
  have HF := Aside0.mk (HF.out.trans hF)
  clear hO hF HX kb c49 c50
  have kb := HK8.out
  have c0 : w8.cell? ⟨W.heap.size, 51, none⟩ = some (.string (dt)) := cell_hp kb (by rw [HRS.out]; have := rec_mid k tm v ecs i si st (.slice Va vn vc) (.slice La ln lc) dt (sgnCells sx) HEL.out 5; simpa using this)
  have HX := Aside0.mk (s_c p base (K + 250030) w8 HO.out (dt) (by omega))
  clear HO
  go_wp2_with (fail)
  refine HX.out.mono ?_
  rintro e w9 ⟨rfl, hO, hF⟩
  have HO := Aside0.mk hO
  have HK9 := Aside0.mk ((hF.typed W.heap.size _ _ _ kb (by decide) hne).trans kb)
  have HF := Aside0.mk (HF.out.trans hF)
  clear hO hF HX kb c0
  have kb := HK9.out
  have r0 := range_sub kb 52 (sgnCells sx) (by rw [HRS.out]; exact rec_sgn _ _ _ _ _ _ _ _ _ _ _ HEL.out)
  have hi0 : (Try.prog.info? 69).map (·.size) = some (sgnCells sx).length := by rw [sgnCells_length _ G.out.1 G.out.2.1 G.out.2.2]; exact size69
  have HX := Aside0.mk (sgn_c p base (K + 315571) w9 HO.out sx G.out.1 G.out.2.1 G.out.2.2 (by omega))
  clear HO
  go_wp2_with (refine wpList_load_mid rfl 69 (.tmp 45) rfl W.heap.size 52 rfl (sgnCells sx) _ r0 Try.underlying69 rfl hi0 ?_)
  refine HX.out.mono ?_
  rintro e w10 ⟨rfl, hO, hF⟩
  have HO := Aside0.mk hO
  have HK10 := Aside0.mk ((hF.typed W.heap.size _ _ _ kb (by decide) hne).trans kb)
  have HF := Aside0.mk (HF.out.trans hF)
  clear hO hF HX kb r0 hi0
  go_wp2_with fail
  all_goals first | go_end0 | ((try simp only [Exit.inBlock, Exit.then]); refine bodyPost_ret (results_none rfl _ _ _) rfl ?_)
  exact ⟨rfl, HO.out.mono (by omega), HF.out⟩
end Go.Proofs.Ytpjachbmllklgaa.Rng
end
section
/- PutRecord: it answers. -/
namespace Go.Proofs.Ytpjachbmllklgaa.Rng
open Go.RowKit Go.Proofs.YtpjachbmllklgaaW.PrintWords Go.Proofs.Ytpjachbmllklgaa.Kinds
set_option linter.unusedVariables false
set_option linter.unusedSimpArgs false
attribute [local go_sem] Oper.semAt_some

/-- A record: kind, term, vote, entry, index, snapshot, signed head. -/
abbrev Rec := Int × Int × Int × Ent × Int × Snap × Sgn
abbrev kRec : Kd Rec := Kd.pair (Kd.int .i64) (Kd.pair (Kd.int .i64) (Kd.pair (Kd.int .i64) (Kd.pair kEnt (Kd.pair (Kd.int .i64) (Kd.pair kSnap kSgn)))))
theorem size71 : (Try.prog.info? 71).map (·.size) = some 149 := by kernel_rfl
theorem rec_K {w : World} {r : Rec} {rs : List Value} (h : kRec.K w r rs) : ∃ (ecs : List Value) (A : Option Addr) (c : Nat) (B : Option Addr) (d : Nat) (Va : Option Addr) (vc : Nat) (La : Option Addr) (lc : Nat),
    rs = recCells r.1 r.2.1 r.2.2.1 ecs r.2.2.2.2.1 r.2.2.2.2.2.1.1 r.2.2.2.2.2.1.2.1 (.slice Va r.2.2.2.2.2.1.2.2.1.1.length vc) (.slice La r.2.2.2.2.2.1.2.2.1.2.length lc) r.2.2.2.2.2.1.2.2.2 (sgnCells r.2.2.2.2.2.2) ∧
    ecs = entHd r.2.2.2.1 ++ [Value.slice A r.2.2.2.1.2.2.2.2.1.length c, Value.slice B r.2.2.2.1.2.2.2.2.2.length d] ∧ r.2.2.2.1.2.2.2.1.2.2.2.2.2.2.length = 32 ∧
    (Kd.int .i64).C w A r.2.2.2.1.2.2.2.2.1.length r.2.2.2.1.2.2.2.2.1 ∧ (Kd.int .i64).C w B r.2.2.2.1.2.2.2.2.2.length r.2.2.2.1.2.2.2.2.2 ∧
    (Kd.int .i64).C w Va r.2.2.2.2.2.1.2.2.1.1.length r.2.2.2.2.2.1.2.2.1.1 ∧ (Kd.int .i64).C w La r.2.2.2.2.2.1.2.2.1.2.length r.2.2.2.2.2.1.2.2.1.2 ∧
    r.2.2.2.2.2.2.1.2.1.length = 32 ∧ r.2.2.2.2.2.2.1.2.2.length = 32 ∧ r.2.2.2.2.2.2.2.length = 32 := by
  obtain ⟨_, _, rfl, rfl, _, _, rfl, rfl, _, _, rfl, rfl, ecs, _, rfl, hE, _, _, rfl, rfl, _, sg, rfl, hS, hG⟩ := h
  obtain ⟨_, _, rfl, rfl, _, _, rfl, rfl, _, _, rfl, ⟨_, _, rfl, ⟨Va, vc, rfl, _, h2⟩, ⟨La, lc, rfl, _, h4⟩⟩, rfl⟩ := hS
  obtain ⟨g1, g2, g3, rfl⟩ := sgn_K hG
  obtain ⟨h32, A, c, B, d, hcs, p1, p2, p3, p4⟩ := ent_parts hE
  exact ⟨ecs, A, c, B, d, Va, vc, La, lc, by simp [recCells], hcs, h32, p2, p4, h2, h4, g1, g2, g3⟩

set_option maxHeartbeats 1000000 in
set_option maxRecDepth 100000 in
theorem done_c (p base K : Nat) (W : World) (h : OutI W p base K) : Calls Try.prog 69 #[.pointer (some ⟨p, 0, none⟩)] W fun e w' => ∃ (v : Value) (er : Int), e = .returned (.tuple #[v, .int .i64 er]) ∧ Below W.heap.size W w' := by
  obtain ⟨hb, A0, n0, c0, e0, b0, h1, h2, h3⟩ := h
  have p0 : W.cell? ⟨p, 0, none⟩ = some (.slice A0 n0 c0) := by simp [World.cell?, h1]
  have p1 : W.cell? ⟨p, 1, none⟩ = some (.int .i64 e0) := by simp [World.cell?, h1]
  clear h1 h2 h3
  by_cases g0 : e0 = 0
  · subst g0
    go_enter Try.func69, Try.ntmps69
    go_wp2_with fail
    refine bodyPost_ret (results_tmp2 rfl _ _ _) rfl ?_
    exact ⟨_, _, rfl, Below.refl _ _⟩
  · go_enter Try.func69, Try.ntmps69
    go_wp2_with fail
    go_region
    go_wp2_with fail
    refine bodyPost_ret (results_tmp2 rfl _ _ _) rfl ?_
    exact ⟨_, _, rfl, (Below.refl _ _).drew⟩

set_option maxHeartbeats 1000000 in
set_option maxRecDepth 100000 in
theorem putrec_c (r : Rec) (rs : List Value) (w : World) (h : kRec.K w r rs) : Calls Try.prog 57 #[.agg rs.toArray] w fun e w' => ∃ (v : Value) (er : Int), e = .returned (.tuple #[v, .int .i64 er]) ∧ Below w.heap.size w w' := by
  have e68 : ∀ args w, (callFunc 68 args).run Try.prog w = .ok (.enter 68 args) w := enters_of Try.func68 (by kernel_rfl) rfl
  have e69 : ∀ args w, (callFunc 69 args).run Try.prog w = .ok (.enter 69 args) w := enters_of Try.func69 (by kernel_rfl) rfl
  have hl : rs.length = 149 := kRec.K_len h
  have hi71 : (Try.prog.info? 71).map (·.size) = some rs.toArray.size := by rw [List.size_toArray, hl]; exact size71
  have q1 : Below w.heap.size w ((w.alloc (.cells rs.toArray 71)).alloc (.cells #[.slice none 0 0, .int .i64 0] 107)) := ((Below.refl _ w).alloc (Nat.le_refl _) _).alloc (by simp) _
  have k1 := blk_alloc (blk_new w (.cells rs.toArray 71)) (.cells #[.slice none 0 0, .int .i64 0] 107)
  have o1 := blk_new (w.alloc (.cells rs.toArray 71)) (.cells #[.slice none 0 0, .int .i64 0] 107)
  rw [World.size_alloc] at o1
  have hO : OutI ((w.alloc (.cells rs.toArray 71)).alloc (.cells #[.slice none 0 0, .int .i64 0] 107)) (w.heap.size + 1) w.heap.size 0 := ⟨by omega, none, 0, 0, 0, [], o1, Kd.R_nil _ _ _ _ _, Nat.le_refl _⟩
  obtain ⟨ecs, A, c, B, d, Va, vc, La, lc, hrs, hecs, h32, cA, cB, cV, cL, g1, g2, g3⟩ := rec_K h
  have HX := Aside0.mk (rec_c (w.heap.size + 1) w.heap.size 0 _ hO r.1 r.2.1 r.2.2.1 r.2.2.2.1 ecs A _ c B _ d r.2.2.2.2.1 r.2.2.2.2.2.1.1 r.2.2.2.2.2.1.2.1 Va _ vc La _ lc r.2.2.2.2.2.1.2.2.2 r.2.2.2.2.2.2 r.2.2.2.2.2.1.2.2.1.1 r.2.2.2.2.2.1.2.2.1.2 rs hrs hecs h32 rfl rfl
    (fun Y hY => Kd.C_below cA (q1.trans hY)) (fun Y hY => Kd.C_below cB (q1.trans hY)) rfl rfl (fun Y hY => Kd.C_below cV (q1.trans hY)) (fun Y hY => Kd.C_below cL (q1.trans hY)) g1 g2 g3 (by omega))
  have Q1 := Aside0.mk q1
  clear h hrs hecs cA cB cV cL g1 g2 g3 hO o1 q1
  go_enter Try.func57, Try.ntmps57
  go_wp2_with (refine wpList_load_row rfl 71 (.tmp 1) rfl w.heap.size rfl 71 _ (0, 0) _ k1 Try.underlying71 rfl hi71 ?_)
  refine HX.out.mono ?_
  rintro e w2 ⟨rfl, hO2, hF⟩
  have HD := Aside0.mk (done_c _ _ _ w2 hO2)
  have q2 : Below w.heap.size w w2 := Q1.out.trans hF.below
  clear hO2 hF HX
  go_wp2_with fail
  refine HD.out.mono ?_
  rintro e w3 ⟨v, er, rfl, hb3⟩
  go_wp2_with fail
  refine bodyPost_ret (results_tmp2 rfl _ _ _) rfl ?_
  exact ⟨_, _, rfl, q2.trans (hb3.mono q2.size)⟩
end Go.Proofs.Ytpjachbmllklgaa.Rng
end
