/- The kinds of the chunk seat's arguments, and that what can be read is of them. -/
import Derived.Test.YtpagkmdlmhdenaaOpen
import Derived.Test.YtpagkmdlmhdenaaProg
namespace Go.Proofs.Ytpagkmdlmhdenaa.Kinds
open Go.RowKit Go.Proofs.YtpagkmdlmhdenaaW.PrintWords Go.Proofs.Ytpagkmdlmhdenaa.Open
set_option linter.unusedVariables false
abbrev fld (name : String) (type offset byteOffset : Nat) : Field := { name := name, type := type, offset := offset, embedded := false, tag := "", pkgPath := "", byteOffset := byteOffset }
abbrev WI : Int → Prop := fun n => (Lit.int .i64 n).wf = true
abbrev WFints : List Int → Prop := fun xs => xs.length ≤ 9223372036854775807 ∧ ∀ x ∈ xs, WI x
abbrev WS : ByteArray → Prop := fun s => s.size ≤ 9223372036854775807
theorem oInt : Opens Try.prog 3 (Kd.int .i64) WI := opens_int Try.underlying3 (by kernel_rfl)
theorem oBool : Opens Try.prog 4 Kd.bool (fun _ => True) := opens_bool Try.underlying4 (by kernel_rfl)
theorem oStr : Opens Try.prog 9 Kd.string WS := opens_string Try.underlying9 (by kernel_rfl)
abbrev kInts : Kd (List Int) := Kd.slice 3 (Kd.int .i64)
theorem oInts : Opens Try.prog 22 kInts WFints := opens_slice Try.underlying22 (by kernel_rfl) oInt
abbrev kCouncil : Kd (List Int × List Int) := Kd.pair kInts kInts
theorem oCouncil : Opens Try.prog 24 kCouncil (fun x => WFints x.1 ∧ WFints x.2) := by
  have F := Fields.cons oInts (f := fld "Voters" 22 0 0) rfl (Fields.last oInts (f := fld "Learners" 22 1 24) rfl)
  exact opens_struct Try.underlying24 (by kernel_rfl) F
abbrev kSnap : Kd (Int × Int × (List Int × List Int) × ByteArray) := Kd.pair (Kd.int .i64) (Kd.pair (Kd.int .i64) (Kd.pair kCouncil Kd.string))
theorem oSnap : Opens Try.prog 26 kSnap (fun x => WI x.1 ∧ WI x.2.1 ∧ (WFints x.2.2.1.1 ∧ WFints x.2.2.1.2) ∧ WS x.2.2.2) := by
  have F := Fields.cons (f := fld "Index" 3 0 0) oInt rfl (Fields.cons (f := fld "Term" 3 1 8) oInt rfl (Fields.cons (f := fld "Council" 24 2 16) oCouncil rfl (Fields.last (f := fld "Data" 9 4 64) oStr rfl)))
  exact opens_struct Try.underlying26 (by kernel_rfl) F
abbrev kPart : Kd (Int × Int × Int × Int × (List Int × List Int) × Int × ByteArray × Bool) := Kd.pair (Kd.int .i64) (Kd.pair (Kd.int .i64) (Kd.pair (Kd.int .i64) (Kd.pair (Kd.int .i64) (Kd.pair kCouncil (Kd.pair (Kd.int .i64) (Kd.pair Kd.string Kd.bool))))))
theorem oPart : Opens Try.prog 34 kPart (fun x => WI x.1 ∧ WI x.2.1 ∧ WI x.2.2.1 ∧ WI x.2.2.2.1 ∧ (WFints x.2.2.2.2.1.1 ∧ WFints x.2.2.2.2.1.2) ∧ WI x.2.2.2.2.2.1 ∧ WS x.2.2.2.2.2.2.1 ∧ True) := by
  have F := Fields.cons (f := fld "From" 3 0 0) oInt rfl (Fields.cons (f := fld "Term" 3 1 8) oInt rfl (Fields.cons (f := fld "Index" 3 2 16) oInt rfl (Fields.cons (f := fld "Of" 3 3 24) oInt rfl (Fields.cons (f := fld "Council" 24 4 32) oCouncil rfl (Fields.cons (f := fld "Total" 3 6 80) oInt rfl (Fields.cons (f := fld "Data" 9 7 88) oStr rfl (Fields.last (f := fld "More" 4 8 104) oBool rfl)))))))
  exact opens_struct Try.underlying34 (by kernel_rfl) F
section
variable {w : World} {cs : List Value}
theorem snap_cells {x : Int × Int × (List Int × List Int) × ByteArray} (h : kSnap.K w x cs) :
    ∃ A2 c2 A3 c3, cs = [.int .i64 x.1, .int .i64 x.2.1, .slice A2 x.2.2.1.1.length c2, .slice A3 x.2.2.1.2.length c3, .string x.2.2.2] ∧ x.2.2.1.1.length ≤ c2 ∧ Kd.C (Kd.int .i64) w A2 x.2.2.1.1.length x.2.2.1.1 ∧ x.2.2.1.2.length ≤ c3 ∧ Kd.C (Kd.int .i64) w A3 x.2.2.1.2.length x.2.2.1.2 := by
  obtain ⟨_, _, rfl, rfl, _, _, rfl, rfl, _, _, rfl, ⟨_, _, rfl, ⟨A2, c2, rfl, h2, h3⟩, ⟨A3, c3, rfl, h4, h5⟩⟩, rfl⟩ := h
  exact ⟨A2, c2, A3, c3, rfl, h2, h3, h4, h5⟩
theorem part_cells {x : Int × Int × Int × Int × (List Int × List Int) × Int × ByteArray × Bool} (h : kPart.K w x cs) :
    ∃ A4 c4 A5 c5, cs = [.int .i64 x.1, .int .i64 x.2.1, .int .i64 x.2.2.1, .int .i64 x.2.2.2.1, .slice A4 x.2.2.2.2.1.1.length c4, .slice A5 x.2.2.2.2.1.2.length c5, .int .i64 x.2.2.2.2.2.1, .string x.2.2.2.2.2.2.1, .bool x.2.2.2.2.2.2.2] ∧
      x.2.2.2.2.1.1.length ≤ c4 ∧ Kd.C (Kd.int .i64) w A4 x.2.2.2.2.1.1.length x.2.2.2.2.1.1 ∧ x.2.2.2.2.1.2.length ≤ c5 ∧ Kd.C (Kd.int .i64) w A5 x.2.2.2.2.1.2.length x.2.2.2.2.1.2 := by
  obtain ⟨_, _, rfl, rfl, _, _, rfl, rfl, _, _, rfl, rfl, _, _, rfl, rfl, _, _, rfl, ⟨_, _, rfl, ⟨A2, c2, rfl, h2, h3⟩, ⟨A3, c3, rfl, h4, h5⟩⟩, _, _, rfl, rfl, _, _, rfl, rfl, rfl⟩ := h
  exact ⟨A2, c2, A3, c3, rfl, h2, h3, h4, h5⟩
end
theorem bounds (n : Int) (h : WI n) : -9223372036854775808 ≤ n ∧ n ≤ 9223372036854775807 := by
  simp [WI, Lit.wf, IntKind.min, IntKind.max, IntKind.signed, IntKind.bits] at h
  omega
abbrev kStrs : Kd (List ByteArray) := Kd.slice 9 Kd.string
theorem oStrs : Opens Try.prog 51 kStrs (fun xs => xs.length ≤ 9223372036854775807 ∧ ∀ x ∈ xs, WS x) := opens_slice Try.underlying51 (by kernel_rfl) oStr
end Go.Proofs.Ytpagkmdlmhdenaa.Kinds
