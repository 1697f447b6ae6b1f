/- For any commands the heads that come of them are a chain of the epochs' roots, one an epoch: for every slice of commands the law returns true, the table of keys lying as the program's text lays it (the card ties that); no other condition. -/
import Derived.Test.YtadkeohohehmcaaGreatDoorRows
import Derived.Test.YtadkeohohehmcaaGreatDoorTie
import Derived.Test.YtadkeohohehmcaaGreatDoorCards
import Derived.Test.YtadkeohohehmcaaGreatDoorKnd
import Derived.WalkKit
import Derived.ProofKit
import Derived.LaidMore
import Derived.OpenShut
import Derived.ShutString
import Derived.ChangeOld
import Derived.Below
import Derived.SizedLaws
import Derived.Stop.Joined
import Derived.SevenTiedAt
namespace Go.Proofs.YtadkeohohehmcaaGreatDoor.TopRow
open Go.ChangeShapes Go.WideShapes Go.ChangeAt Go.RowKit Go.Proofs.YtadkeohohehmcaaGreatDoor.Top Go.Proofs.YtadkeohohehmcaaGreatDoor.Open Go.Proofs.YtadkeohohehmcaaGreatDoorW.PrintWords
open Go.ChangeMaps (open_string shut_string)
set_option linter.unusedVariables false
theorem own : ownKnob Tryz.prog.godebug = none := by kernel_rfl
theorem laidOut : laidOutB Tryz.prog = true := by kernel_rfl
def KS : List Int := [1116352408, 1899447441, 3049323471, 3921009573, 961987163, 1508970993, 2453635748, 2870763221, 3624381080, 310598401, 607225278, 1426881987, 1925078388, 2162078206, 2614888103, 3248222580, 3835390401, 4022224774, 264347078, 604807628, 770255983, 1249150122, 1555081692, 1996064986, 2554220882, 2821834349, 2952996808, 3210313671, 3336571891, 3584528711, 113926993, 338241895, 666307205, 773529912, 1294757372, 1396182291, 1695183700, 1986661051, 2177026350, 2456956037, 2730485921, 2820302411, 3259730800, 3345764771, 3516065817, 3600352804, 4094571909, 275423344, 430227734, 506948616, 659060556, 883997877, 958139571, 1322822218, 1537002063, 1747873779, 1955562222, 2024104815, 2227730452, 2361852424, 2428436474, 2756734187, 3204031479, 3329325298]
def laidL : List (String × DataW Unit) := [("tabellion/sha.keys", Rows.laid_tabellion_sha_keys)]
theorem gKeys : Tryz.prog.globalNamed "tabellion/sha.keys" = some 0 := by kernel_rfl
theorem tKeys : (Tryz.prog.globals[0]?).map (·.type) = some 162 := by kernel_rfl
theorem c6 : Tryz.prog.cellsOf 120 = 1 := by kernel_rfl
/-- The door's own heap meets the condition. -/
theorem door_met (os : Os) (args : Array Value) : laidMetH Tryz.prog laidL ((World.doorLaid Tryz.prog 4000 os).forCall (fun _ _ => 0) ⟨#[], args, []⟩).memory :=
  laidMetH_of_parts3 (fuel := 8) (laidMet_of_run' 8 (by kernel_rfl) (by kernel_rfl)) (by kernel_rfl) (by kernel_rfl)
theorem keys_of {W : World} (h : laidMetH Tryz.prog laidL W) : HKey KS W := by
  rw [MakeChecks.laidMetH_plain _ _ _ (by kernel_rfl)] at h
  obtain ⟨ps, ⟨g0, t0, cs0, f0, p0, q0, hg0, ht0, hv0, hd0, _, _⟩, _, _⟩ := h
  obtain rfl := Option.some.inj (gKeys.symm.trans hg0)
  obtain rfl := Option.some.inj (tKeys.symm.trans ht0)
  obtain ⟨xs, m1, rfl, hx1, hlen, hn3, hel⟩ := DataW.trod_array Tryz.underlying162 hd0
  rw [c6] at hel
  intro j hj
  have hxj : xs[j]? = some xs[j] := List.getElem?_eq_getElem (by omega)
  have h0 := hel j hj
  rw [hxj, Nat.mul_one] at h0
  obtain ⟨k, e1, e2, _⟩ := DataW.trod_int Tryz.underlying120 h0
  have hcell := World.var?_cell hg0 hv0 j
  rw [hcell]
  have e3 : (cs0.toList.drop j).head? = some (.int .u32 k) := by
    have : ((cs0.toList.drop j).take 1).head? = (cs0.toList.drop j).head? := by cases cs0.toList.drop j <;> rfl
    rw [← this, e1]
    rfl
  rw [List.head?_drop, Array.getElem?_toList] at e3
  rw [e3]
  simp only [Prod.mk.injEq] at hx1
  have e4 : (Rows.laid_tabellion_sha_keys : DataW Unit) = .agg (KS.map fun n => .lit (.int .u32 n)) := by unfold Rows.laid_tabellion_sha_keys KS; rfl
  rw [e4] at hx1
  have e5 : KS.map (fun n => (DataW.lit (.int .u32 n) : DataW Unit)) = xs.map (·.1) := by
    have := hx1.1
    injection this
  have e6 : (KS.map (fun n => (DataW.lit (.int .u32 n) : DataW Unit)))[j]? = (xs.map (·.1))[j]? := by rw [e5]
  rw [List.getElem?_map, List.getElem?_map, hxj, Option.map_some, e2] at e6
  have hK : KS[j]? = some KS[j]! := by
    have hl : j < KS.length := hj
    rw [getElem!_pos KS j hl]
    exact List.getElem?_eq_getElem hl
  rw [hK] at e6
  simp only [Option.map_some, Option.some.injEq, DataW.lit.injEq, Lit.int.injEq, true_and] at e6
  rw [e6]
set_option maxRecDepth 100000 in
theorem lifted (os : Os) (started : os.Started) (H : Type) (enc : TypeId × Value → H) :
    ReturnsInHanded {} Tryz.checked os 3 .any (fun w args => (Rows.topHeadsSpec.pre enc Tryz.prog Tryz.f3 [] false w args ∧ laidMetH Tryz.prog laidL w) ∧ sizedMet enc Tryz.prog Tryz.f3 (OpenSpec.ofChange Rows.topHeadsSpec) false w args)
      (Rows.topHeadsSpec.post enc Tryz.prog Tryz.f3 false true false false) := by
  refine returnsInHanded_of_change_and (C := Tryz.checked) (X := fun w _ => laidMetH Tryz.prog laidL w) (fun _ _ _ hh h => h.of_heap hh) own started (by kernel_rfl) Tryz.func3
    (ChangeSpec.witness_shaped (enc := enc) (C := Tryz.checked) (os := os) (X := fun w _ => laidMetH Tryz.prog laidL w) false (World.doorLaid Tryz.prog 4000 os) #[.slice none 0 0] 8 rfl (World.shaped_of_RefB (by kernel_rfl) (by kernel_rfl)) (by kernel_rfl) (by kernel_rfl) (by kernel_rfl) (door_met os _)) ?_
  intro W base args ds gs before hval0 hW _ _ hL _
  have hval : ∀ (j : Nat) t v, Tryz.f3.params[j]? = some t → args[j]? = some v → Value.okWide Tryz.prog W .any base t v := hval0
  have hW' := hW
  obtain ⟨p, q, hA0, hV, rfl, hfz, hnd⟩ := hW
  have hA : DataW.TrodAll enc Tryz.prog W 0 (fun _ => true) true Tryz.f3.params.toList args.toList ds p := hA0
  rw [Tryz.params3] at hA hval
  obtain ⟨v0, d0, rfl, rfl, h0⟩ := trodAll_one hA
  obtain ⟨rfl, rfl⟩ := trodVars_none hV
  have k0 := h0
  have lt0 : ∀ x ∈ p, x.block < W.heap.size := by obtain ⟨m, hm⟩ := k0; exact DataW.trod_lt m _ _ _ hm
  obtain ⟨fu0, hf0⟩ := h0
  obtain ⟨ys, hK0, w0⟩ := oCmds.get hf0
  obtain ⟨AL, cl, hv0, hc0, hC0⟩ := hK0
  obtain ⟨aa0, ll0, cc0, rfl⟩ := okWide_slice Tryz.underlying22 (hval 0 22 v0 rfl rfl)
  obtain ⟨rfl, rfl, rfl⟩ : aa0 = AL ∧ ll0 = ys.length ∧ cc0 = cl := by simpa [Value.cells] using hv0
  have hk := keys_of hL
  clear hA0 hval0
  refine (top_c KS (ys.map toCmd) _ W hk (csR_of hc0 hC0) (fun c hc => by
    obtain ⟨x, hx, rfl⟩ := List.mem_map.1 hc
    exact path_of (w0.2 x hx).2.2.2.2.2.2)).mono fun e W' ⟨he, bel0⟩ => ?_
  have bel : Below W.heap.size W W' := bel0
  subst he
  exact ⟨_, rfl, _, _, _, [], _, [], hW', trodAll_mk1 (shut_bool Tryz.underlying4 _), trodAll_mk1 (Below.trod laidOut (by kernel_rfl) (of_decide_eq_true (by kernel_rfl)) k0 bel lt0), rfl, bel.frame _, fun h => by cases h⟩
theorem over : Rows.TopHeadsSaid :=
  OpenClaim.holds_of_wide 3 Tryz.f3 rfl rfl rfl rfl rfl rfl rfl ⟨rfl, rfl, rfl, rfl, rfl⟩ rfl rfl rfl rfl rfl (by kernel_rfl) Tryz.func3 (by kernel_rfl)
    (of_decide_eq_true (by kernel_rfl)) (by unfold Func.isWrapper; first | (rw [if_pos (by decide +kernel)]; kernel_rfl) | (rw [if_neg (by decide +kernel)]; exact ⟨rfl, rfl⟩))
    (fun os started H enc _ => lifted os started H enc)
theorem card : Rows.TopHeadsCardSaid :=
  Claim7.holds_tied_plain_at .later [] [.data] true (true, "b48ffd14832fdde904d44af4d40c354f8965edd36ffecf04aac83604b6ddba2c") false
    over (fun _ h => by cases h) (by kernel_rfl) (fun _ h => by cases h) topHeads_row_tie rfl ⟨rfl, rfl⟩ (by kernel_rfl) rfl
    (fun f fn hf hfn => by
      obtain rfl : f = 3 := Option.some.inj ((show Tryz.prog.funcNamed "tabellion/tabelliontop.TopHeads" = some 3 by kernel_rfl).symm.trans hf) |>.symm
      obtain rfl : fn = Tryz.f3 := (Option.some.inj (Tryz.func3.symm.trans hfn)).symm
      exact ⟨by kernel_rfl, fun j t ht => by
        rw [Tryz.params3] at ht
        have hm : t ∈ [22] := by simpa using Array.mem_of_getElem? ht
        have hall : ([22].all fun u => !Tryz.prog.wantsStandIn u) = true := by kernel_rfl
        exact (show Tryz.prog.wantsStandIn t = false by simpa using List.all_eq_true.1 hall t hm)⟩)
    (by kernel_rfl)
end Go.Proofs.YtadkeohohehmcaaGreatDoor.TopRow
namespace Go.Proofs.YtadkeohohehmcaaGreatDoor
/-- For any commands the heads that come of them are a chain of the epochs' roots, one an epoch. -/
theorem topHeads_holds : Rows.TopHeadsCardSaid := TopRow.card
#print axioms topHeads_holds
end Go.Proofs.YtadkeohohehmcaaGreatDoor
