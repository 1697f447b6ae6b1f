/- The law: the heads are a chain of the epochs' roots. -/
import Derived.Test.YtadkeohohehmcaaGreatDoorMaA
namespace Go.Proofs.YtadkeohohehmcaaGreatDoor.Top
open Go.RowKit Go.Proofs.YtadkeohohehmcaaGreatDoorW.PrintWords Go.Proofs.YtadkeohohehmcaaGreatDoorW.PrintLast Go.Proofs.YtadkeohohehmcaaGreatDoorW.PrintMore Go.Proofs.YtadkeohohehmcaaGreatDoor.PTop
set_option linter.unusedVariables false
set_option linter.unusedSimpArgs false
attribute [local go_sem] Oper.semAt_some
theorem prevF_snoc (KS : List Int) (l : List Hd) (h : Hd) : prevF KS (l ++ [h]) = hdigF KS h := by
  unfold prevF
  rw [List.getLast?_concat]
  simp only [Option.map_some, Option.getD_some]
def dgC (p : List Int) : Array Value := (p.map (Value.int .u8)).toArray
structure HeadL (KS : List Int) (d : Dir) (D1 D2 D3 : Option Addr) (m1 c1 c2 m3 c3 : Nat) (W2 wr : World) (db pb : Nat) (s5 : Value) (i : Nat) : Prop where
  ix : s5 = .int .i64 (i : Int)
  le : i ≤ d.hs.length
  kd : wr.heap[db]? = some (.cells #[.int .i64 d.e, .slice D1 m1 c1, .slice D2 d.hs.length c2, .slice D3 m3 c3] 28 (0, 0))
  pv : wr.heap[pb]? = some (.cells (dgC (prevF KS (d.hs.take i))) 31 (0, 0))
  below : Below W2.heap.size W2 wr
def TopPost (w : World) (e : Ending) (w' : World) : Prop := e = .returned (.bool true) ∧ Below w.heap.size w w'
set_option maxHeartbeats 16000000 in
set_option maxRecDepth 100000 in
theorem top_c (KS : List Int) (cs : List Cmd) (v : Value) (w : World) (hk : HKey KS w) (hr : CsR w v cs) (hp : ∀ c ∈ cs, PathOk c.root) : Calls Tryz.prog 3 #[v] w fun e w' => TopPost w e w' := by
  have hk0 := hk.pos
  have LC := Aside0.mk (long_c cs v w hr (fun c hc => (hp c hc).len))
  have MC : Aside0 (cs.length ≤ 200 → ∀ W, Below w.heap.size w W → Calls Tryz.prog 5 #[v] W fun e w' => MadePost KS cs W e w') := ⟨fun h W hW => made_c KS cs v W (hk.below hW hk0) (CsR.below hr hW) hp h⟩
  have WC : Aside0 (∀ W, Below w.heap.size w W → Calls Tryz.prog 8 #[] W fun e w' => e = .returned (.bool true) ∧ Below W.heap.size W w') := ⟨fun W hW => works_c KS W (hk.below hW hk0)⟩
  have RC : Aside0 (∀ (W : World) d x1 x2 x3 ep, Below w.heap.size w W → DirR W d x1 x2 x3 → DirIn KS d → 1 ≤ ep → ep ≤ d.e → Calls Tryz.prog 6 #[.agg #[.int .i64 d.e, x1, x2, x3], .int .i64 ep] W fun e w' => e = .returned (.tuple #[dv (rootE KS ep d.us), .int .i64 0]) ∧ Below W.heap.size W w') := ⟨fun W d x1 x2 x3 ep hW h1 h2 h3 h4 => rootdir_c KS d x1 x2 x3 ep W (hk.below hW hk0) h1 h2 h3 h4⟩
  have DC : Aside0 (∀ (W : World) h, Below w.heap.size w W → HdOk h → Calls Tryz.prog 7 #[.agg (hdcells h).toArray] W fun e w' => e = .returned (.tuple #[dv (hdigF KS h), .int .i64 0]) ∧ Below W.heap.size W w') := ⟨fun W h hW ok => digest_c KS h ok W (hk.below hW hk0)⟩
  have HP := Aside0.mk hp
  clear hk hr hp
  go_enter Tryz.func3, Tryz.ntmps3
  go_upto_region 2 with (go_at_call 4; refine LC.out.mono ?_; rintro e W1 ⟨bb, rfl, hlen, b1⟩; refine Aside0.out ?_)
  refine ⟨?_⟩
  have HLEN := Aside0.mk hlen
  have B1 := Aside0.mk b1
  clear hlen b1 LC
  cases bb
  rotate_left
  · go_wp2_with fail
    go_ret
    exact ⟨rfl, B1.out⟩
  have M1 := Aside0.mk (MC.out (HLEN.out rfl) W1 B1.out)
  go_upto_region 4 with (first | (go_at_call 5; refine M1.out.mono ?_; rintro e W2 ⟨d, D1, m1, c1, D2, m2, c2, D3, m3, c3, rfl, hmd, hdr, hb2⟩; refine Aside0.out ?_))
  refine ⟨?_⟩
  obtain ⟨E2, g2, h2, _⟩ := Reads.form hdr.hs
  have hm2 : m2 = d.hs.length := by injection h2 with _ g _
  subst hm2
  have B2 : Aside0 (Below w.heap.size w W2) := ⟨B1.out.trans (hb2.mono B1.out.size)⟩
  have MI := Aside0.mk (made_in hmd HP.out)
  have DR := Aside0.mk hdr
  clear hmd hdr hb2 h2 MC M1 HLEN
  have hhl : (d.hs.length : Int) ≤ d.e := MI.out.1.hs.len
  have hde := MI.out.1.hi
  have hi28c : (Tryz.prog.info? 28).map (·.size) = some #[Value.int .i64 d.e, .slice D1 m1 c1, .slice D2 d.hs.length c2, .slice D3 m3 c3].size := hi28
  have h1c : #[Value.int .i64 d.e, .slice D1 m1 c1, .slice D2 d.hs.length c2, .slice D3 m3 c3].all (·.oneCell') = true := by simp [Value.oneCell']
  have hzz : z28.toArray.size = #[Value.int .i64 d.e, .slice D1 m1 c1, .slice D2 d.hs.length c2, .slice D3 m3 c3].size := rfl
  obtain ⟨n, hn⟩ : ∃ n, d.hs.length = n := ⟨_, rfl⟩
  have HN := Aside0.mk hn
  rw [hn] at hhl hi28c h1c hzz ⊢
  clear hn
  go_upto_region 4 with (first | (refine wpList_allocW rfl 28 rfl z28.toArray zero28 ?_; intro W3 b3 s3 k3) | (refine wpList_store_row rfl 28 (.tmp 3) (.tmp 13) rfl W2.heap.size _ rfl rfl 28 _ k3 hi28c hzz h1c ?_))
  have k4 := setRow_heap W3 W2.heap.size _ #[Value.int .i64 d.e, .slice D1 m1 c1, .slice D2 n c2, .slice D3 m3 c3] 28 (0, 0) k3
  have q4 : Below W2.heap.size W2 (W3.setRow W2.heap.size #[Value.int .i64 d.e, .slice D1 m1 c1, .slice D2 n c2, .slice D3 m3 c3]) := below_setRow b3 _ (Nat.le_refl _) _
  have s4 : (W3.setRow W2.heap.size #[Value.int .i64 d.e, .slice D1 m1 c1, .slice D2 n c2, .slice D3 m3 c3]).heap.size = W2.heap.size + 1 := by rw [size_setRow]; exact s3
  obtain ⟨db, hdb⟩ : ∃ db, W2.heap.size = db := ⟨_, rfl⟩
  have HDB := Aside0.mk hdb
  rw [hdb] at k4 s4 ⊢
  rw [hdb] at q4
  generalize W3.setRow db #[Value.int .i64 d.e, .slice D1 m1 c1, .slice D2 n c2, .slice D3 m3 c3] = W4 at k4 q4 s4 ⊢
  clear b3 s3 k3 hdb W3 hi28c h1c hzz
  have HS4 := Aside0.mk s4
  clear s4
  have hi31z' := info31 (List.replicate 32 0) rfl
  have hz0 := zD_size (List.replicate 32 0) rfl
  have h1z := dig_one (List.replicate 32 0)
  go_upto_region 5 with (first | (refine wpList_allocW rfl 31 rfl zD zero31 ?_; intro W5 b5 s5 k5) | (refine wpList_store_row rfl 31 (.tmp 4) (.tmp 14) rfl W4.heap.size zD rfl rfl 31 _ k5 hi31z' hz0 h1z ?_))
  have k6 := setRow_heap W5 W4.heap.size _ zD 31 (0, 0) k5
  have hdl : db < W4.heap.size := by have := HS4.out; omega
  have k6d := (setRow_other W5 W4.heap.size db zD (by omega)).trans ((b5.block db hdl).trans k4)
  have q6 : Below db W2 (W5.setRow W4.heap.size zD) := below_setRow (q4.trans (b5.mono (by omega))) _ (by omega) _
  obtain ⟨pb, hpb⟩ : ∃ pb, W4.heap.size = pb := ⟨_, rfl⟩
  rw [hpb] at k6 k6d q6 hdl ⊢
  generalize W5.setRow pb zD = W6 at k6 k6d q6 ⊢
  clear b5 s5 k5 k4 q4 hpb W5 hi31z' hz0 h1z HS4 W4
  go_upto_region 6 with fail
  have Q6 : Aside0 (Below W2.heap.size W2 W6) := ⟨by rw [HDB.out]; exact q6⟩
  clear q6
  go_loopg [5] n (fun gg s5 wr => ∃ i : Nat, n - i ≤ gg ∧ Aside (HeadL KS d D1 D2 D3 m1 c1 c2 m3 c3 W2 wr db pb s5 i))
  case atStart => exact ⟨0, by omega, ⟨rfl, by omega, by rw [HN.out]; exact k6d, k6, Q6.out⟩⟩
  case round =>
    obtain ⟨i, hgg, L⟩ := hrel
    have LL := Aside0.mk L.out
    obtain rfl := LL.out.ix
    have hle := LL.out.le
    have kd := LL.out.kd
    rw [HN.out] at hle kd
    have PV := Aside0.mk LL.out.pv
    have BL := Aside0.mk LL.out.below
    have BW : Aside0 (∀ W, Below W2.heap.size W2 W → Below w.heap.size w W) := ⟨fun W hW => B2.out.trans (hW.mono B2.out.size)⟩
    clear L LL k6 k6d Q6 W6
    have f2 : wr.cell? ⟨db, 2, none⟩ = some (.slice D2 n c2) := by simp [World.cell?, kd]
    have f0 : wr.cell? ⟨db, 0, none⟩ = some (.int .i64 d.e) := by simp [World.cell?, kd]
    have hdbl : db < wr.heap.size := (Array.getElem?_eq_some_iff.1 kd).1
    have hpbl : pb < wr.heap.size := (Array.getElem?_eq_some_iff.1 PV.out).1
    by_cases hin : i < n
    · have hi0 : (i : Int) < (n : Int) := by omega
      have hge : (0 : Int) ≤ (i : Int) := by omega
      have hlc : i < d.hs.length := by rw [HN.out]; exact hin
      have hx : d.hs[i]? = some d.hs[i] := List.getElem?_eq_getElem hlc
      obtain ⟨he, hok, hpok, hprev⟩ := MI.out.1.hs.at_ i _ hx
      have hroot := MI.out.2 i _ hx
      have hwi : IntKind.i64.wrap ((i : Int) + 1) = (i : Int) + 1 := by simp [IntKind.wrap, IntKind.bits, IntKind.signed]; omega
      obtain ⟨b2, off2, rfl, hcs⟩ : ∃ b2 off2, D2 = some ⟨b2, off2, none⟩ ∧ ∀ j u, (hsC d.hs)[j]? = some u → W2.cell? ⟨b2, off2 + j, none⟩ = some u := by
        rcases DR.out.hs.2 with ⟨_, h1⟩ | ⟨b, off, _, h1, _, h2⟩
        · omega
        · injection h1 with h1
          exact ⟨b, off, h1, h2⟩
      have rl : wr.rangeAt b2 (off2 + i * 65) (hdcells d.hs[i]) := fun j u hj => by
        have h1 := hcs _ _ (hsC_at d.hs (hdOk_of MI.out.1) i _ hx j u hj)
        rw [Nat.add_assoc]
        exact (World.cell?_of_block (w := W2) (BL.out.block b2 (block_lt_of_cell h1))).trans h1
      have TK : Aside0 (prevF KS (d.hs.take (i + 1)) = hdigF KS d.hs[i]) := ⟨by
        rw [List.take_add_one, hx]
        exact prevF_snoc KS _ _⟩
      have R1 := Aside0.mk (RC.out wr d _ _ _ ((i : Int) + 1) (BW.out wr BL.out) (DirR.below DR.out BL.out) MI.out.1 (by omega) (by omega))
      have PF := prevF_ok KS (d.hs.take i)
      have RP := rootE_ok KS ((i : Int) + 1) d.us
      rw [← hroot] at R1 RP
      rw [← hprev] at PF PV
      have DD : Aside0 (∀ (W : World), Below wr.heap.size wr W → Calls Tryz.prog 7 #[.agg (hdcells d.hs[i]).toArray] W fun e w' => e = .returned (.tuple #[dv (hdigF KS d.hs[i]), .int .i64 0]) ∧ Below W.heap.size W w') := ⟨fun W hW => DC.out W _ (BW.out W (BL.out.trans (hW.mono BL.out.size))) hok⟩
      have hql := hdigF_len KS d.hs[i]
      generalize hdigF KS d.hs[i] = q at *
      have h36 := hdcells_len _ hok
      generalize d.hs[i] = h at *
      obtain ⟨he', r, p⟩ := h
      dsimp only at he hroot hprev RP PF R1 PV
      subst he
      rw [HN.out] at R1
      have re : wr.cell? ⟨b2, off2 + i * 65, none⟩ = some (.int .i64 ((i : Int) + 1)) := rl 0 _ rfl
      have rr : wr.rangeAt b2 (off2 + i * 65 + 1) (u8s r) := fun j u hj => by
        rw [Nat.add_assoc]
        refine rl (1 + j) u ?_
        unfold hdcells
        rw [Nat.add_comm 1 j, List.getElem?_cons_succ, List.map_append, List.getElem?_append_left (List.getElem?_eq_some_iff.1 hj).1]
        exact hj
      have rp : wr.rangeAt b2 (off2 + i * 65 + 33) (u8s p) := fun j u hj => by
        rw [Nat.add_assoc]
        refine rl (33 + j) u ?_
        unfold hdcells
        have e : (u8s r).length = 32 := by rw [List.length_map]; exact RP.len
        rw [show 33 + j = (32 + j) + 1 by omega, List.getElem?_cons_succ, List.map_append, List.getElem?_append_right (by rw [e]; omega), e, Nat.add_sub_cancel_left]
        exact hj
      have hi31r := info31 r RP.len
      have hz31 := zD_size r RP.len
      have h1r := dig_one r
      have hi31q := info31 q hql
      have hz31q := zD_size q hql
      have h1q := dig_one q
      have hi28c : (Tryz.prog.info? 28).map (·.size) = some #[Value.int .i64 d.e, .slice D1 m1 c1, .slice (some ⟨b2, off2, none⟩) n c2, .slice D3 m3 c3].size := hi28
      have KD := Aside0.mk kd
      have RL := Aside0.mk rl
      have RR := Aside0.mk rr
      have RE := Aside0.mk re
      have RPP := Aside0.mk rp
      have HOK := Aside0.mk hok
      have H36 := Aside0.mk h36
      have HRT := Aside0.mk hroot
      have HPV := Aside0.mk hprev
      clear hx hcs rl rr re rp hroot hprev hpok hok h36
      go_upto_region 9 with (first | (refine wpList_load_row rfl 28 (.tmp 3) rfl db rfl 28 _ (0, 0) _ kd Tryz.underlying28 rfl hi28c ?_) | (go_at_call 6; refine R1.out.mono ?_; rintro e W3 ⟨rfl, b3⟩; refine Aside0.out ?_))
      refine ⟨?_⟩
      go_upto_region 9 with (first | (refine wpList_allocW rfl 31 rfl zD zero31 ?_; intro W4 b4 s4 k4) | (refine wpList_store_row rfl 31 (.tmp 6) (.tmp 27) rfl W3.heap.size _ rfl rfl 31 _ k4 hi31r hz31 h1r ?_))
      have k5 := setRow_heap W4 W3.heap.size _ (r.map (Value.int .u8)).toArray 31 (0, 0) k4
      have q5 : Below wr.heap.size wr (W4.setRow W3.heap.size (r.map (Value.int .u8)).toArray) := below_setRow (b3.trans (b4.mono b3.size)) _ b3.size _
      have hsz3 := b3.size
      obtain ⟨tb, htb⟩ : ∃ tb, W3.heap.size = tb := ⟨_, rfl⟩
      rw [htb] at k5 q5 hsz3 ⊢
      generalize W4.setRow tb (r.map (Value.int .u8)).toArray = W5 at k5 q5 ⊢
      have SK : Aside0 (∀ W, Below W5.heap.size W5 W → W.cell? ⟨db, 2, none⟩ = some (.slice (some ⟨b2, off2, none⟩) n c2) ∧ W.cell? ⟨b2, off2 + i * 65, none⟩ = some (.int .i64 ((i : Int) + 1)) ∧ W.rangeAt b2 (off2 + i * 65 + 1) (u8s r) ∧ W.rangeAt tb 0 (u8s r) ∧ W.rangeAt b2 (off2 + i * 65 + 33) (u8s p) ∧ W.rangeAt pb 0 (u8s p)) := ⟨fun W hW => by
        have kd9 := (hW.block db (by have := q5.size; omega)).trans ((q5.block db hdbl).trans KD.out)
        have kt9 := (hW.block tb (Array.getElem?_eq_some_iff.1 k5).1).trans k5
        have kp9 := (hW.block pb (by have := q5.size; omega)).trans ((q5.block pb hpbl).trans PV.out)
        have hz9 : Below wr.heap.size wr W := q5.trans (hW.mono q5.size)
        refine ⟨by simp [World.cell?, kd9], (hz9.cell (p := ⟨b2, off2 + i * 65, none⟩) (block_lt_of_cell RE.out)).trans RE.out, fun j u hj => (World.cell?_of_block (w := wr) (hz9.block _ (block_lt_of_cell (RR.out j u hj)))).trans (RR.out j u hj), fun j u hj => ?_, fun j u hj => (World.cell?_of_block (w := wr) (hz9.block _ (block_lt_of_cell (RPP.out j u hj)))).trans (RPP.out j u hj), fun j u hj => ?_⟩
        · rw [Nat.zero_add]
          exact cell_in (l := u8s r) kt9 hj
        · rw [Nat.zero_add]
          exact cell_in (l := u8s p) kp9 hj⟩
      have Q5 := Aside0.mk q5
      clear b3 b4 s4 k4 k5 q5 htb W4 W3 f2 f0 kd hi31r hz31 h1r R1
      have hlr : (Tryz.prog.info? 31).map (·.size) = some (u8s r).length := (by kernel_rfl : (Tryz.prog.info? 31).map (·.size) = some 32).trans (by rw [List.length_map, RP.len])
      have hlp : (Tryz.prog.info? 31).map (·.size) = some (u8s p).length := (by kernel_rfl : (Tryz.prog.info? 31).map (·.size) = some 32).trans (by rw [List.length_map, PF.len])
      have EQ1 : ∀ W : World, (binOp .neq 31 (.agg (u8s r).toArray) (.agg (u8s r).toArray)).run Tryz.prog W = .ok (.bool false) W := fun W => by
        have := run_ne_dv r r RP RP W
        rw [decide_eq_true rfl] at this
        exact this
      have EQ2 : ∀ W : World, (binOp .neq 31 (.agg (u8s p).toArray) (.agg (u8s p).toArray)).run Tryz.prog W = .ok (.bool false) W := fun W => by
        have := run_ne_dv p p PF PF W
        rw [decide_eq_true rfl] at this
        exact this
      have EG : ∀ (x y : Operand) (a b : Array Value) (W : World), (eqGuard .neq 31 x y (.agg a) (.agg b)).run Tryz.prog W = .ok () W := fun x y a b W => run_guard_dv .neq (Or.inr rfl) x y a b W
      refine wp_region_held_drew (S := (fun W => W.cell? ⟨db, 2, none⟩ = some (.slice (some ⟨b2, off2, none⟩) n c2) ∧ W.cell? ⟨b2, off2 + i * 65, none⟩ = some (.int .i64 ((i : Int) + 1)) ∧ W.rangeAt b2 (off2 + i * 65 + 1) (u8s r) ∧ W.rangeAt tb 0 (u8s r) ∧ W.rangeAt b2 (off2 + i * 65 + 33) (u8s p) ∧ W.rangeAt pb 0 (u8s p))) (by kernel_rfl) (by exact SK.out W5 (Below.refl _ _)) (fun hHeld => ?_)
      refine wpAnyH_take (i := 0) (oi := _) (v := ?_) rfl (by kernel_rfl) (by kernel_rfl) (by kernel_rfl) (fun _ _ _ h => h) (Or.inl ⟨by rfl, ?_⟩) (by assumption) ?_
      rotate_left
      · (intro w hSw; (try dsimp only at hSw); obtain ⟨s1_, s2_, s3_, s4_, s5_, s6_⟩ := hSw; clear s3_ s4_ s5_ s6_; go_simp; (try with_reducible rfl))
      (try simp only [uA, uB, uC, uD, uE, uF, uG, uH])
      refine wpAnyH_take (i := 1) (oi := _) (v := .bool false) rfl (by kernel_rfl) (by kernel_rfl) (by kernel_rfl) (fun _ _ _ h => h) (Or.inl ⟨by rfl, ?_⟩) (by assumption) ?_
      rotate_left 0
      · (intro w hSw; (try dsimp only at hSw); obtain ⟨s1_, s2_, s3_, s4_, s5_, s6_⟩ := hSw; clear s3_ s4_ s5_ s6_; go_simp; (try with_reducible rfl))
      (try simp only [uA, uB, uC, uD, uE, uF, uG, uH])
      refine wpAnyH_take (i := 2) (oi := _) (v := .bool false) rfl (by kernel_rfl) (by kernel_rfl) (by kernel_rfl) (fun _ _ _ h => h) (Or.inl ⟨by rfl, ?_⟩) (by assumption) ?_
      rotate_left 0
      · (intro w hSw; (try dsimp only at hSw); obtain ⟨s1_, s2_, s3_, s4_, s5_, s6_⟩ := hSw; clear s3_ s4_ s5_ s6_; go_simp; (try with_reducible rfl))
      (try simp only [uA, uB, uC, uD, uE, uF, uG, uH])
      refine wpAnyH_take (i := 3) (oi := _) (v := ?_) rfl (by kernel_rfl) (by kernel_rfl) (by kernel_rfl) (fun _ _ _ h => h) (Or.inl ⟨by rfl, ?_⟩) (by assumption) ?_
      rotate_left
      · (intro w hSw; (try dsimp only at hSw); obtain ⟨s1_, s2_, s3_, s4_, s5_, s6_⟩ := hSw; clear s3_ s4_ s5_ s6_; go_simp; (try with_reducible rfl))
      (try simp only [uA, uB, uC, uD, uE, uF, uG, uH])
      refine wpAnyH_take (i := 4) (oi := _) (v := ?_) rfl (by kernel_rfl) (by kernel_rfl) (by kernel_rfl) (fun _ _ _ h => h) (Or.inl ⟨by rfl, ?_⟩) (by assumption) ?_
      rotate_left
      · (intro w hSw; (try dsimp only at hSw); obtain ⟨s1_, s2_, s3_, s4_, s5_, s6_⟩ := hSw; clear s3_ s4_ s5_ s6_; go_simp; (try with_reducible rfl))
      (try simp only [uA, uB, uC, uD, uE, uF, uG, uH])
      refine wpAnyH_take (i := 5) (oi := _) (v := ?_) rfl (by kernel_rfl) (by kernel_rfl) (by kernel_rfl) (fun _ _ _ h => h) (Or.inl ⟨by rfl, ?_⟩) (by assumption) ?_
      rotate_left
      · (intro w hSw; (try dsimp only at hSw); obtain ⟨s1_, s2_, s3_, s4_, s5_, s6_⟩ := hSw; clear s3_ s4_ s5_ s6_; go_simp; (try with_reducible rfl))
      (try simp only [uA, uB, uC, uD, uE, uF, uG, uH])
      refine wpAnyH_take (i := 6) (oi := _) (v := ?_) rfl (by kernel_rfl) (by kernel_rfl) (by kernel_rfl) (fun _ _ _ h => h) (Or.inl ⟨by rfl, ?_⟩) (by assumption) ?_
      rotate_left
      · (intro w hSw; (try dsimp only at hSw); obtain ⟨s1_, s2_, s3_, s4_, s5_, s6_⟩ := hSw; clear s3_ s4_ s5_ s6_; go_simp; (try with_reducible rfl))
      (try simp only [uA, uB, uC, uD, uE, uF, uG, uH])
      refine wpAnyH_take (i := 7) (oi := _) (v := ?_) rfl (by kernel_rfl) (by kernel_rfl) (by kernel_rfl) (fun _ _ _ h => h) (Or.inl ⟨by rfl, ?_⟩) (by assumption) ?_
      rotate_left
      · (intro w hSw; (try dsimp only at hSw); obtain ⟨s1_, s2_, s3_, s4_, s5_, s6_⟩ := hSw; clear s3_ s4_ s5_ s6_; go_simp; (try with_reducible rfl))
      (try simp only [uA, uB, uC, uD, uE, uF, uG, uH])
      refine wpAnyH_take (i := 8) (oi := _) (v := ?_) rfl (by kernel_rfl) (by kernel_rfl) (by kernel_rfl) (fun _ _ _ h => h) (Or.inl ⟨by rfl, ?_⟩) (by assumption) ?_
      rotate_left
      · (intro w hSw; (try dsimp only at hSw); obtain ⟨s1_, s2_, s3_, s4_, s5_, s6_⟩ := hSw; clear s3_ s4_ s5_ s6_; go_simp; (try with_reducible rfl))
      (try simp only [uA, uB, uC, uD, uE, uF, uG, uH])
      refine wpAnyH_take (i := 9) (oi := _) (v := ?_) rfl (by kernel_rfl) (by kernel_rfl) (by kernel_rfl) (fun _ _ _ h => h) (Or.inl ⟨by rfl, ?_⟩) (by assumption) ?_
      rotate_left
      · (intro w hSw; (try dsimp only at hSw); obtain ⟨s1_, s2_, s3_, s4_, s5_, s6_⟩ := hSw; clear s3_ s4_ s5_ s6_; go_simp; (try with_reducible rfl))
      (try simp only [uA, uB, uC, uD, uE, uF, uG, uH])
      refine wpAnyH_take (i := 10) (oi := _) (v := ?_) rfl (by kernel_rfl) (by kernel_rfl) (by kernel_rfl) (fun _ _ _ h => h) (Or.inl ⟨by rfl, ?_⟩) (by assumption) ?_
      rotate_left
      · (intro w hSw; (try dsimp only at hSw); obtain ⟨s1_, s2_, s3_, s4_, s5_, s6_⟩ := hSw; clear s3_ s4_ s5_ s6_; go_simp; (try with_reducible rfl))
      (try simp only [uA, uB, uC, uD, uE, uF, uG, uH])
      refine wpAnyH_take (i := 11) (oi := _) (v := .bool false) rfl (by kernel_rfl) (by kernel_rfl) (by kernel_rfl) (fun _ _ _ h => h) (Or.inl ⟨by rfl, ?_⟩) (by assumption) ?_
      rotate_left 0
      · (intro w hSw; (try dsimp only at hSw); obtain ⟨s1_, s2_, s3_, s4_, s5_, s6_⟩ := hSw; clear s3_ s4_ s5_ s6_; go_simp; (try with_reducible rfl))
      (try simp only [uA, uB, uC, uD, uE, uF, uG, uH])
      refine wpAnyH_take (i := 12) (oi := _) (v := .bool false) rfl (by kernel_rfl) (by kernel_rfl) (by kernel_rfl) (fun _ _ _ h => h) (Or.inl ⟨by rfl, ?_⟩) (by assumption) ?_
      rotate_left 0
      · (intro w hSw; (try dsimp only at hSw); obtain ⟨s1_, s2_, s3_, s4_, s5_, s6_⟩ := hSw; clear s3_ s4_ s5_ s6_; go_simp; (try with_reducible rfl))
      (try simp only [uA, uB, uC, uD, uE, uF, uG, uH])
      refine wpAnyH_take (i := 13) (oi := _) (v := .bool false) rfl (by kernel_rfl) (by kernel_rfl) (by kernel_rfl) (fun _ _ _ h => h) (Or.inl ⟨by rfl, ?_⟩) (by assumption) ?_
      rotate_left 0
      · (intro w hSw; (try dsimp only at hSw); obtain ⟨s1_, s2_, s3_, s4_, s5_, s6_⟩ := hSw; clear s3_ s4_ s5_ s6_; go_simp; (try with_reducible rfl))
      (try simp only [uA, uB, uC, uD, uE, uF, uG, uH])
      refine wpAnyH_take (i := 14) (oi := _) (v := ?_) rfl (by kernel_rfl) (by kernel_rfl) (by kernel_rfl) (fun _ _ _ h => h) (Or.inl ⟨by rfl, ?_⟩) (by assumption) ?_
      rotate_left
      · (intro w hSw; (try dsimp only at hSw); obtain ⟨s1_, s2_, s3_, s4_, s5_, s6_⟩ := hSw; clear s3_ s4_ s5_ s6_; go_simp; (try with_reducible rfl))
      (try simp only [uA, uB, uC, uD, uE, uF, uG, uH])
      refine wpAnyH_take (i := 15) (oi := _) (v := ?_) rfl (by kernel_rfl) (by kernel_rfl) (by kernel_rfl) (fun _ _ _ h => h) (Or.inl ⟨by rfl, ?_⟩) (by assumption) ?_
      rotate_left
      · (intro w hSw; (try dsimp only at hSw); obtain ⟨s1_, s2_, s3_, s4_, s5_, s6_⟩ := hSw; clear s3_ s4_ s5_ s6_; go_simp; (try with_reducible rfl))
      (try simp only [uA, uB, uC, uD, uE, uF, uG, uH])
      refine wpAnyH_take (i := 16) (oi := _) (v := ?_) rfl (by kernel_rfl) (by kernel_rfl) (by kernel_rfl) (fun _ _ _ h => h) (Or.inl ⟨by rfl, ?_⟩) (by assumption) ?_
      rotate_left
      · (intro w hSw; (try dsimp only at hSw); obtain ⟨s1_, s2_, s3_, s4_, s5_, s6_⟩ := hSw; clear s3_ s4_ s5_ s6_; go_simp; (try with_reducible rfl))
      (try simp only [uA, uB, uC, uD, uE, uF, uG, uH])
      refine wpAnyH_take (i := 17) (oi := _) (v := ?_) rfl (by kernel_rfl) (by kernel_rfl) (by kernel_rfl) (fun _ _ _ h => h) (Or.inl ⟨by rfl, ?_⟩) (by assumption) ?_
      rotate_left
      · (intro w hSw; (try dsimp only at hSw); obtain ⟨s1_, s2_, s3_, s4_, s5_, s6_⟩ := hSw; clear s3_ s4_ s5_ s6_; go_simp; (try with_reducible rfl))
      (try simp only [uA, uB, uC, uD, uE, uF, uG, uH])
      refine wpAnyH_take (i := 18) (oi := _) (v := ?_) rfl (by kernel_rfl) (by kernel_rfl) (by kernel_rfl) (fun _ _ _ h => h) (Or.inl ⟨by rfl, ?_⟩) (by assumption) ?_
      rotate_left
      · (intro w hSw; (try dsimp only at hSw); obtain ⟨s1_, s2_, s3_, s4_, s5_, s6_⟩ := hSw; clear s3_ s4_ s5_ s6_; go_simp; (try with_reducible rfl))
      (try simp only [uA, uB, uC, uD, uE, uF, uG, uH])
      refine wpAnyH_take (i := 19) (oi := _) (v := _) rfl (by kernel_rfl) (by kernel_rfl) (by kernel_rfl) (fun _ _ _ h => h) (yieldsIf_load_mid (by rfl) 31 (.tmp 47) rfl b2 (off2 + i * 65 + 1) rfl _ _ (fun W hW => hW.2.2.1) Tryz.underlying31 rfl hlr) (by assumption) ?_
      (try simp only [uA, uB, uC, uD, uE, uF, uG, uH])
      refine wpAnyH_take (i := 20) (oi := _) (v := _) rfl (by kernel_rfl) (by kernel_rfl) (by kernel_rfl) (fun _ _ _ h => h) (yieldsIf_load_mid (by rfl) 31 (.tmp 6) rfl tb 0 rfl _ _ (fun W hW => hW.2.2.2.1) Tryz.underlying31 rfl hlr) (by assumption) ?_
      (try simp only [uA, uB, uC, uD, uE, uF, uG, uH])
      refine wpAnyH_take (i := 21) (oi := _) (v := .bool false) rfl (by kernel_rfl) (by kernel_rfl) (by kernel_rfl) (fun _ _ _ h => h) (Or.inl ⟨by rfl, ?_⟩) (by assumption) ?_
      rotate_left 0
      · (intro w hSw; (try dsimp only at hSw); obtain ⟨s1_, s2_, s3_, s4_, s5_, s6_⟩ := hSw; clear s3_ s4_ s5_ s6_; go_simp; (try with_reducible rfl))
      (try simp only [uA, uB, uC, uD, uE, uF, uG, uH])
      refine wpAnyH_take (i := 22) (oi := _) (v := .bool false) rfl (by kernel_rfl) (by kernel_rfl) (by kernel_rfl) (fun _ _ _ h => h) (Or.inl ⟨by rfl, ?_⟩) (by assumption) ?_
      rotate_left 0
      · (intro w hSw; (try dsimp only at hSw); obtain ⟨s1_, s2_, s3_, s4_, s5_, s6_⟩ := hSw; clear s3_ s4_ s5_ s6_; go_simp; (try with_reducible rfl))
      (try simp only [uA, uB, uC, uD, uE, uF, uG, uH])
      refine wpAnyH_take (i := 23) (oi := _) (v := .bool false) rfl (by kernel_rfl) (by kernel_rfl) (by kernel_rfl) (fun _ _ _ h => h) (Or.inl ⟨by rfl, ?_⟩) (by assumption) ?_
      rotate_left 0
      · (intro w hSw; (try dsimp only at hSw); obtain ⟨s1_, s2_, s3_, s4_, s5_, s6_⟩ := hSw; clear s3_ s4_ s5_ s6_; go_simp; (try with_reducible rfl))
      (try simp only [uA, uB, uC, uD, uE, uF, uG, uH])
      refine wpAnyH_take (i := 24) (oi := _) (v := ?_) rfl (by kernel_rfl) (by kernel_rfl) (by kernel_rfl) (fun _ _ _ h => h) (Or.inl ⟨by rfl, ?_⟩) (by assumption) ?_
      rotate_left
      · (intro w hSw; (try dsimp only at hSw); obtain ⟨s1_, s2_, s3_, s4_, s5_, s6_⟩ := hSw; clear s3_ s4_ s5_ s6_; go_simp; (try with_reducible rfl))
      (try simp only [uA, uB, uC, uD, uE, uF, uG, uH])
      refine wpAnyH_take (i := 25) (oi := _) (v := ?_) rfl (by kernel_rfl) (by kernel_rfl) (by kernel_rfl) (fun _ _ _ h => h) (Or.inl ⟨by rfl, ?_⟩) (by assumption) ?_
      rotate_left
      · (intro w hSw; (try dsimp only at hSw); obtain ⟨s1_, s2_, s3_, s4_, s5_, s6_⟩ := hSw; clear s3_ s4_ s5_ s6_; go_simp; (try with_reducible rfl))
      (try simp only [uA, uB, uC, uD, uE, uF, uG, uH])
      refine wpAnyH_take (i := 26) (oi := _) (v := ?_) rfl (by kernel_rfl) (by kernel_rfl) (by kernel_rfl) (fun _ _ _ h => h) (Or.inl ⟨by rfl, ?_⟩) (by assumption) ?_
      rotate_left
      · (intro w hSw; (try dsimp only at hSw); obtain ⟨s1_, s2_, s3_, s4_, s5_, s6_⟩ := hSw; clear s3_ s4_ s5_ s6_; go_simp; (try with_reducible rfl))
      (try simp only [uA, uB, uC, uD, uE, uF, uG, uH])
      refine wpAnyH_take (i := 27) (oi := _) (v := ?_) rfl (by kernel_rfl) (by kernel_rfl) (by kernel_rfl) (fun _ _ _ h => h) (Or.inl ⟨by rfl, ?_⟩) (by assumption) ?_
      rotate_left
      · (intro w hSw; (try dsimp only at hSw); obtain ⟨s1_, s2_, s3_, s4_, s5_, s6_⟩ := hSw; clear s3_ s4_ s5_ s6_; go_simp; (try with_reducible rfl))
      (try simp only [uA, uB, uC, uD, uE, uF, uG, uH])
      refine wpAnyH_take (i := 28) (oi := _) (v := ?_) rfl (by kernel_rfl) (by kernel_rfl) (by kernel_rfl) (fun _ _ _ h => h) (Or.inl ⟨by rfl, ?_⟩) (by assumption) ?_
      rotate_left
      · (intro w hSw; (try dsimp only at hSw); obtain ⟨s1_, s2_, s3_, s4_, s5_, s6_⟩ := hSw; clear s3_ s4_ s5_ s6_; go_simp; (try with_reducible rfl))
      (try simp only [uA, uB, uC, uD, uE, uF, uG, uH])
      refine wpAnyH_take (i := 29) (oi := _) (v := _) rfl (by kernel_rfl) (by kernel_rfl) (by kernel_rfl) (fun _ _ _ h => h) (yieldsIf_load_mid (by rfl) 31 (.tmp 57) rfl b2 (off2 + i * 65 + 33) rfl _ _ (fun W hW => hW.2.2.2.2.1) Tryz.underlying31 rfl hlp) (by assumption) ?_
      (try simp only [uA, uB, uC, uD, uE, uF, uG, uH])
      refine wpAnyH_take (i := 30) (oi := _) (v := _) rfl (by kernel_rfl) (by kernel_rfl) (by kernel_rfl) (fun _ _ _ h => h) (yieldsIf_load_mid (by rfl) 31 (.tmp 4) rfl pb 0 rfl _ _ (fun W hW => hW.2.2.2.2.2) Tryz.underlying31 rfl hlp) (by assumption) ?_
      (try simp only [uA, uB, uC, uD, uE, uF, uG, uH])
      refine wpAnyH_take (i := 31) (oi := _) (v := .bool false) rfl (by kernel_rfl) (by kernel_rfl) (by kernel_rfl) (fun _ _ _ h => h) (Or.inl ⟨by rfl, ?_⟩) (by assumption) ?_
      rotate_left 0
      · (intro w hSw; (try dsimp only at hSw); obtain ⟨s1_, s2_, s3_, s4_, s5_, s6_⟩ := hSw; clear s3_ s4_ s5_ s6_; go_simp; (try with_reducible rfl))
      (try simp only [uA, uB, uC, uD, uE, uF, uG, uH])
      refine wpAnyH_take (i := 32) (oi := _) (v := .bool false) rfl (by kernel_rfl) (by kernel_rfl) (by kernel_rfl) (fun _ _ _ h => h) (Or.inl ⟨by rfl, ?_⟩) (by assumption) ?_
      rotate_left 0
      · (intro w hSw; (try dsimp only at hSw); obtain ⟨s1_, s2_, s3_, s4_, s5_, s6_⟩ := hSw; clear s3_ s4_ s5_ s6_; go_simp; (try with_reducible rfl))
      (try simp only [uA, uB, uC, uD, uE, uF, uG, uH])
      refine wpAnyH_done (by kernel_rfl) ?_ _
      clear hHeld EQ1 EQ2 EG hlr hlp
      have Q5d : Aside0 (Below wr.heap.size wr W5.drew) := ⟨Q5.out.drew⟩
      generalize W5.drew = W7 at Q5d ⊢
      have q7 := Q5d.out
      have rl7 : W7.rangeAt b2 (off2 + i * 65) (hdcells ⟨(i : Int) + 1, r, p⟩) := fun j u hj => (World.cell?_of_block (w := wr) (q7.block _ (block_lt_of_cell (RL.out j u hj)))).trans (RL.out j u hj)
      have kd7 := (q7.block db hdbl).trans KD.out
      have f2 : W7.cell? ⟨db, 2, none⟩ = some (.slice (some ⟨b2, off2, none⟩) n c2) := by simp [World.cell?, kd7]
      have D7 := Aside0.mk (DD.out W7 q7)
      have hi36l : (Tryz.prog.info? 36).map (·.size) = some (hdcells ⟨(i : Int) + 1, r, p⟩).length := (by kernel_rfl : (Tryz.prog.info? 36).map (·.size) = some 65).trans (by rw [H36.out])
      clear q7 kd7
      go_upto_region 12 with (first | (refine wpList_load_mid rfl 36 (.tmp 66) rfl b2 (off2 + i * 65) rfl _ _ rl7 Tryz.underlying36 rfl hi36l ?_) | (go_at_call 7; refine D7.out.mono ?_; rintro e W8 ⟨rfl, b8⟩; refine Aside0.out ?_))
      refine ⟨?_⟩
      clear rl7 f2 D7
      go_upto_region 12 with (first | (refine wpList_allocW rfl 31 rfl zD zero31 ?_; intro W9 b9 s9 k9) | (refine wpList_store_row rfl 31 (.tmp 8) (.tmp 69) rfl W8.heap.size _ rfl rfl 31 _ k9 hi31q hz31q h1q ?_))
      have k10 := setRow_heap W9 W8.heap.size _ (q.map (Value.int .u8)).toArray 31 (0, 0) k9
      have q8 : Below wr.heap.size wr W8 := Q5d.out.trans (b8.mono Q5d.out.size)
      have q10 : Below wr.heap.size wr (W9.setRow W8.heap.size (q.map (Value.int .u8)).toArray) := below_setRow (q8.trans (b9.mono q8.size)) _ q8.size _
      obtain ⟨nb, hnb⟩ : ∃ nb, W8.heap.size = nb := ⟨_, rfl⟩
      rw [hnb] at k10 q10 ⊢
      generalize W9.setRow nb (q.map (Value.int .u8)).toArray = W10 at k10 q10 ⊢
      have p10 := (q10.block pb hpbl).trans PV.out
      have hpz : (dgC p).size = (q.map (Value.int .u8)).toArray.size := by unfold dgC; simp [PF.len, hql]
      have K10 := Aside0.mk ((q10.block db hdbl).trans KD.out)
      have Q10 := Aside0.mk q10
      have P10 := Aside0.mk p10
      have hwi2 := hwi
      clear b8 b9 s9 k9 q8 q10 hnb W9 W8
      go_wp2_with (first | (refine wpList_load_row rfl 31 (.tmp 8) rfl nb rfl 31 _ (0, 0) _ k10 Tryz.underlying31 rfl hi31q ?_) | (refine wpList_store_row rfl 31 (.tmp 4) (.tmp 73) rfl pb _ rfl rfl 31 _ p10 hi31q hpz h1q ?_))
      go_roundg (n - (i + 1))
      case measure => omega
      case rel => exact ⟨i + 1, Nat.le_refl _, ⟨rfl, by rw [HN.out]; omega, by rw [HN.out]; exact (setRow_other _ pb db _ (by omega)).trans K10.out, by rw [TK.out]; exact setRow_heap _ _ _ _ _ _ P10.out, below_setRow (BL.out.trans (Q10.out.mono BL.out.size)) _ (by have := HDB.out; omega) _⟩⟩
    · obtain rfl : i = n := by omega
      have hnl : ¬ (i : Int) < (i : Int) := by omega
      have W1c := Aside0.mk (WC.out wr (BW.out wr BL.out))
      have KD := Aside0.mk kd
      clear kd
      go_upto_region 99 with (first | (go_at_call 8; refine W1c.out.mono ?_; rintro e W3 ⟨rfl, b3⟩; refine Aside0.out ?_))
      refine ⟨?_⟩
      have kd3 := (b3.block db hdbl).trans KD.out
      have f23 : W3.cell? ⟨db, 2, none⟩ = some (.slice D2 i c2) := by simp [World.cell?, kd3]
      have f03 : W3.cell? ⟨db, 0, none⟩ = some (.int .i64 d.e) := by simp [World.cell?, kd3]
      have BB : Aside0 (Below w.heap.size w W3) := ⟨BW.out _ (BL.out.trans (b3.mono BL.out.size))⟩
      clear b3 kd3 f2 f0
      go_wp2_with fail
      go_ret
      exact ⟨rfl, BB.out⟩
end Go.Proofs.YtadkeohohehmcaaGreatDoor.Top
