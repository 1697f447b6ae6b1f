/- The kinds of the ledger seat's arguments: what is saved. -/
import Derived.Test.YtpjachbmllklgaaOpen
import Derived.Test.YtpjachbmllklgaaLgA
namespace Go.Proofs.Ytpjachbmllklgaa.Kinds
open Go.RowKit Go.Proofs.YtpjachbmllklgaaW.PrintWords Go.Proofs.Ytpjachbmllklgaa.Open Go.Proofs.Ytpjachbmllklgaa.Rng
set_option linter.unusedVariables false
abbrev fld (name : String) (type offset byteOffset : Nat) : Field := { name := name, type := type, offset := offset, embedded := false, tag := "", pkgPath := "", byteOffset := byteOffset }
abbrev WI : Int → Prop := fun n => (Lit.int .i64 n).wf = true
abbrev WFints : List Int → Prop := fun xs => xs.length ≤ 9223372036854775807 ∧ ∀ x ∈ xs, WI x
abbrev WS : ByteArray → Prop := fun s => s.size ≤ 9223372036854775807
theorem bounds (n : Int) (h : WI n) : -9223372036854775808 ≤ n ∧ n ≤ 9223372036854775807 := by
  simp [WI, Lit.wf, IntKind.min, IntKind.max, IntKind.signed, IntKind.bits] at h
  omega
theorem oInt : Opens Try.prog 3 (Kd.int .i64) WI := opens_int Try.underlying3 (by kernel_rfl)
theorem oEK : Opens Try.prog 52 (Kd.int .i64) WI := opens_int Try.underlying52 (by kernel_rfl)
theorem oCK : Opens Try.prog 53 (Kd.int .i64) WI := opens_int Try.underlying53 (by kernel_rfl)
theorem oByte : Opens Try.prog 5 (Kd.int .u8) (fun n => (Lit.int .u8 n).wf = true) := opens_int Try.underlying5 (by kernel_rfl)
theorem oStr : Opens Try.prog 9 Kd.string WS := opens_string Try.underlying9 (by kernel_rfl)
abbrev kInts : Kd (List Int) := Kd.slice 3 (Kd.int .i64)
theorem oInts : Opens Try.prog 22 kInts WFints := opens_slice Try.underlying22 (by kernel_rfl) oInt
abbrev kCouncil : Kd (List Int × List Int) := Kd.pair kInts kInts
abbrev WCou : List Int × List Int → Prop := fun x => WFints x.1 ∧ WFints x.2
theorem oCouncil : Opens Try.prog 24 kCouncil WCou := by
  have F := Fields.cons oInts (f := fld "Voters" 22 0 0) rfl (Fields.last oInts (f := fld "Learners" 22 1 24) rfl)
  exact opens_struct Try.underlying24 (by kernel_rfl) F
abbrev Snap := Int × Int × (List Int × List Int) × ByteArray
abbrev kSnap : Kd Snap := Kd.pair (Kd.int .i64) (Kd.pair (Kd.int .i64) (Kd.pair kCouncil Kd.string))
abbrev WSnap : Snap → Prop := fun x => WI x.1 ∧ WI x.2.1 ∧ WCou x.2.2.1 ∧ WS x.2.2.2
theorem oSnap : Opens Try.prog 26 kSnap WSnap := by
  have F := Fields.cons (f := fld "Index" 3 0 0) oInt rfl (Fields.cons (f := fld "Term" 3 1 8) oInt rfl (Fields.cons (f := fld "Council" 24 2 16) oCouncil rfl (Fields.last (f := fld "Data" 9 4 64) oStr rfl)))
  exact opens_struct Try.underlying26 (by kernel_rfl) F
def kDig : Kd (List Int) := Kd.arr 32 (Kd.int .u8) (by decide)
def WDig : List Int → Prop := fun xs => xs.length = 32 ∧ ∀ x ∈ xs, (Lit.int .u8 x).wf = true
theorem oDig : Opens Try.prog 55 kDig WDig := opens_array Try.underlying55 (by decide) (by kernel_rfl) oByte
theorem sz_dig : kDig.sz = 32 := rfl
abbrev Cmd := Int × Int × Int × ByteArray × ByteArray × Int × List Int
abbrev kCmd : Kd Cmd := Kd.pair (Kd.int .i64) (Kd.pair (Kd.int .i64) (Kd.pair (Kd.int .i64) (Kd.pair Kd.string (Kd.pair Kd.string (Kd.pair (Kd.int .i64) kDig)))))
abbrev WCmd : Cmd → Prop := fun x => WI x.1 ∧ WI x.2.1 ∧ WI x.2.2.1 ∧ WS x.2.2.2.1 ∧ WS x.2.2.2.2.1 ∧ WI x.2.2.2.2.2.1 ∧ WDig x.2.2.2.2.2.2
theorem oCmd : Opens Try.prog 57 kCmd WCmd := by
  have F := Fields.cons (f := fld "Kind" 53 0 0) oCK rfl (Fields.cons (f := fld "Client" 3 1 8) oInt rfl (Fields.cons (f := fld "Seq" 3 2 16) oInt rfl (Fields.cons (f := fld "User" 9 3 24) oStr rfl (Fields.cons (f := fld "Key" 9 4 40) oStr rfl (Fields.cons (f := fld "Epoch" 3 5 56) oInt rfl (Fields.last (f := fld "Root" 55 6 64) oDig rfl))))))
  exact opens_struct Try.underlying57 (by kernel_rfl) F
abbrev Ent := Int × Int × Int × Cmd × (List Int × List Int)
abbrev kEnt : Kd Ent := Kd.pair (Kd.int .i64) (Kd.pair (Kd.int .i64) (Kd.pair (Kd.int .i64) (Kd.pair kCmd kCouncil)))
abbrev WEnt : Ent → Prop := fun x => WI x.1 ∧ WI x.2.1 ∧ WI x.2.2.1 ∧ WCmd x.2.2.2.1 ∧ WCou x.2.2.2.2
theorem oEnt : Opens Try.prog 59 kEnt WEnt := by
  have F := Fields.cons (f := fld "Index" 3 0 0) oInt rfl (Fields.cons (f := fld "Term" 3 1 8) oInt rfl (Fields.cons (f := fld "Kind" 52 2 16) oEK rfl (Fields.cons (f := fld "Command" 57 3 24) oCmd rfl (Fields.last (f := fld "Council" 24 41 120) oCouncil rfl))))
  exact opens_struct Try.underlying59 (by kernel_rfl) F
abbrev kEnts : Kd (List Ent) := Kd.slice 59 kEnt
abbrev WEnts : List Ent → Prop := fun xs => xs.length ≤ 9223372036854775807 ∧ ∀ x ∈ xs, WEnt x
theorem oEnts : Opens Try.prog 27 kEnts WEnts := opens_slice Try.underlying27 (by kernel_rfl) oEnt
abbrev Head := Int × List Int × List Int
abbrev kHead : Kd Head := Kd.pair (Kd.int .i64) (Kd.pair kDig kDig)
abbrev WHead : Head → Prop := fun x => WI x.1 ∧ WDig x.2.1 ∧ WDig x.2.2
theorem oHead : Opens Try.prog 67 kHead WHead := by
  have F := Fields.cons (f := fld "Epoch" 3 0 0) oInt rfl (Fields.cons (f := fld "Root" 55 1 8) oDig rfl (Fields.last (f := fld "Prev" 55 33 40) oDig rfl))
  exact opens_struct Try.underlying67 (by kernel_rfl) F
abbrev Sgn := Head × List Int
abbrev kSgn : Kd Sgn := Kd.pair kHead kDig
abbrev WSgn : Sgn → Prop := fun x => WHead x.1 ∧ WDig x.2
theorem oSgn : Opens Try.prog 69 kSgn WSgn := by
  have F := Fields.cons (f := fld "Head" 67 0 0) oHead rfl (Fields.last (f := fld "Sign" 55 65 72) oDig rfl)
  exact opens_struct Try.underlying69 (by kernel_rfl) F
abbrev kSgns : Kd (List Sgn) := Kd.slice 69 kSgn
abbrev WSgns : List Sgn → Prop := fun xs => xs.length ≤ 9223372036854775807 ∧ ∀ x ∈ xs, WSgn x
theorem oSgns : Opens Try.prog 28 kSgns WSgns := opens_slice Try.underlying28 (by kernel_rfl) oSgn
abbrev Saved := Int × Int × Snap × List Ent × List Sgn
abbrev kSaved : Kd Saved := Kd.pair (Kd.int .i64) (Kd.pair (Kd.int .i64) (Kd.pair kSnap (Kd.pair kEnts kSgns)))
abbrev WSaved : Saved → Prop := fun x => WI x.1 ∧ WI x.2.1 ∧ WSnap x.2.2.1 ∧ WEnts x.2.2.2.1 ∧ WSgns x.2.2.2.2
theorem oSaved : Opens Try.prog 30 kSaved WSaved := by
  have F := Fields.cons (f := fld "Term" 3 0 0) oInt rfl (Fields.cons (f := fld "Vote" 3 1 8) oInt rfl (Fields.cons (f := fld "Snap" 26 2 16) oSnap rfl (Fields.cons (f := fld "Entries" 27 7 96) oEnts rfl (Fields.last (f := fld "Signed" 28 8 120) oSgns rfl))))
  exact opens_struct Try.underlying30 (by kernel_rfl) F
section
variable {w : World} {cs : List Value}
theorem ent_cells {x : Ent} (h : kEnt.K w x cs) : IsE cs ∧ itOf cs = (x.1, x.2.1) ∧ IsC cs := by
  have hl : cs.length = 43 := kEnt.K_len h
  have h1 := kEnt.K_one h
  obtain ⟨_, _, rfl, rfl, _, _, rfl, rfl, _, _, rfl, rfl, cc, cu, rfl, hc, _, _, rfl, ⟨A2, c2, rfl, h2, h3⟩, ⟨A3, c3, rfl, h4, h5⟩⟩ := h
  have hcl : cc.length = 38 := kCmd.K_len hc
  refine ⟨⟨hl, h1, rfl, rfl⟩, rfl, ⟨A2, x.2.2.2.2.1.length, c2, ?_⟩, ⟨A3, x.2.2.2.2.2.length, c3, ?_⟩⟩
  · simp [List.getElem?_append, hcl]
  · simp [List.getElem?_append, hcl]
/-- What is saved, as it lies: its nine cells; and its entries. -/
theorem saved_sv {x : Saved} (h : kSaved.K w x cs) (hw : WSaved x) : ∃ (s : Sv) (b off : Nat) (css : List (List Value)), cs = s.cells.toList ∧
    ((s.n : Int) ≤ 1000 → Lg w s b off css ∧ ∀ j, j < css.length → IsC css[j]!) := by
  obtain ⟨_, _, rfl, rfl, _, _, rfl, rfl, _, _, rfl, ⟨_, _, rfl, rfl, _, _, rfl, rfl, _, _, rfl, ⟨_, _, rfl, ⟨A1, c1, rfl, _, _⟩, ⟨A2, c2, rfl, _, _⟩⟩, rfl⟩, _, _, rfl, ⟨A, c, rfl, hc, hr⟩, ⟨B, d, rfl, _, _⟩⟩ := h
  refine ⟨⟨x.1, x.2.1, x.2.2.1.1, x.2.2.1.2.1, A1, x.2.2.1.2.2.1.1.length, c1, A2, x.2.2.1.2.2.1.2.length, c2, x.2.2.1.2.2.2, A, x.2.2.2.1.length, c, B, x.2.2.2.2.length, d⟩, ?_⟩
  by_cases h0 : 0 < x.2.2.2.1.length
  · obtain ⟨ad, rfl, hcell⟩ := hr.2.2 h0
    have key : ∀ j, j < x.2.2.2.1.length → ∃ cs', cs'.length = 43 ∧ kEnt.K w (x.2.2.2.1[j]!) cs' ∧ ∀ i u, cs'[i]? = some u → w.cell? (ad.add (j * 43 + i)) = some u := fun j hj => hcell j _ (by rw [getElem!_pos _ j hj]; exact List.getElem?_eq_getElem hj)
    have : ∃ css : List (List Value), css.length = x.2.2.2.1.length ∧ ∀ j, j < css.length → kEnt.K w (x.2.2.2.1[j]!) css[j]! ∧ ∀ i u, css[j]![i]? = some u → w.cell? (ad.add (j * 43 + i)) = some u := by
      have : ∀ k, k ≤ x.2.2.2.1.length → ∃ css : List (List Value), css.length = k ∧ ∀ j, j < css.length → kEnt.K w (x.2.2.2.1[j]!) css[j]! ∧ ∀ i u, css[j]![i]? = some u → w.cell? (ad.add (j * 43 + i)) = some u := by
        intro k
        induction k with
        | zero => exact fun _ => ⟨[], rfl, fun j hj => by simp at hj⟩
        | succ k ih =>
          intro hk
          obtain ⟨css, hl, hh⟩ := ih (by omega)
          obtain ⟨cs', _, h1, h2⟩ := key k (by omega)
          refine ⟨css ++ [cs'], by simp [hl], fun j hj => ?_⟩
          simp only [List.length_append, List.length_singleton] at hj
          by_cases e : j < css.length
          · have : (css ++ [cs'])[j]! = css[j]! := by rw [getElem!_pos _ j (by simp; omega), getElem!_pos _ j e, List.getElem_append_left e]
            rw [this]
            exact hh j e
          · have e2 : j = k := by omega
            subst e2
            have : (css ++ [cs'])[j]! = cs' := by rw [getElem!_pos _ j (by simp; omega), List.getElem_append_right (by omega)]; simp [hl]
            rw [this]
            exact ⟨h1, h2⟩
      exact this _ (Nat.le_refl _)
    obtain ⟨css, hl, hh⟩ := this
    obtain ⟨b, off, spot⟩ := ad
    have hE := fun j hj => ent_cells (hh j hj).1
    have hc0 := (hh 0 (by omega)).2 0 _ (hE 0 (by omega)).1.i0
    have hspot : spot = none := by simpa [Addr.add] using World.cell?_spot hc0
    subst hspot
    refine ⟨b, off, css, rfl, fun hn => ⟨⟨hl.symm, fun _ => rfl, fun j hj i u hi => ?_, fun j hj => (hE j hj).1, fun j hj => ?_, ?_, .inl ?_⟩, fun j hj => (hE j hj).2.2⟩⟩
    · have := (hh j hj).2 i u hi
      rw [Addr.add_mid] at this
      rw [show off + j * 43 + i = off + (j * 43 + i) by omega]
      exact this
    · rw [(hE j hj).2.1]
      refine bounds _ (hw.2.2.2.1.2 _ ?_).1
      rw [getElem!_pos _ j (by omega)]
      exact List.getElem_mem _
    · dsimp only at hn; omega
    · simp only [World.cell?] at hc0
      by_cases g : b < w.heap.size
      · exact g
      · rw [Array.getElem?_eq_none (by simpa [Addr.add] using g)] at hc0
        simp at hc0
  · have h1 : x.2.2.2.1 = [] := by simpa using h0
    refine ⟨0, 0, [], rfl, fun _ => ⟨⟨by rw [h1]; rfl, fun g => by simp at g, fun j hj => by simp at hj, fun j hj => by simp at hj, fun j hj => by simp at hj, by simp, .inr rfl⟩, fun j hj => by simp at hj⟩⟩
end
end Go.Proofs.Ytpjachbmllklgaa.Kinds
