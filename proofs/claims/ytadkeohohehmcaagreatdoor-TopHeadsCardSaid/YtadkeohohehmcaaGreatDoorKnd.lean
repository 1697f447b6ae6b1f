/- The kinds of the law's argument: commands. -/
import Derived.Test.YtadkeohohehmcaaGreatDoorOpen
import Derived.Test.YtadkeohohehmcaaGreatDoorTopA
namespace Go.Proofs.YtadkeohohehmcaaGreatDoor.Top
open Go.RowKit Go.Proofs.YtadkeohohehmcaaGreatDoorW.PrintWords Go.Proofs.YtadkeohohehmcaaGreatDoor.Open
set_option linter.unusedVariables false
abbrev fldk (name : String) (type offset byteOffset : Nat) : Field := { name := name, type := type, offset := offset, embedded := false, tag := "", pkgPath := "", byteOffset := byteOffset }
abbrev WI : Int → Prop := fun n => (Lit.int .i64 n).wf = true
abbrev WS : ByteArray → Prop := fun s => s.size ≤ 9223372036854775807
theorem oInt : Opens Tryz.prog 3 (Kd.int .i64) WI := opens_int Tryz.underlying3 (by kernel_rfl)
theorem oCK : Opens Tryz.prog 39 (Kd.int .i64) WI := opens_int Tryz.underlying39 (by kernel_rfl)
theorem oByte : Opens Tryz.prog 5 (Kd.int .u8) (fun n => (Lit.int .u8 n).wf = true) := opens_int Tryz.underlying5 (by kernel_rfl)
theorem oStr : Opens Tryz.prog 9 Kd.string WS := opens_string Tryz.underlying9 (by kernel_rfl)
def kDig : Kd (List Int) := Kd.arr 32 (Kd.int .u8) (by decide)
def WDig : List Int → Prop := fun xs => xs.length = 32 ∧ ∀ x ∈ xs, (Lit.int .u8 x).wf = true
theorem oDig : Opens Tryz.prog 31 kDig WDig := opens_array Tryz.underlying31 (by decide) (by kernel_rfl) oByte
abbrev TCmd := Int × Int × Int × ByteArray × ByteArray × Int × List Int
abbrev kCmd : Kd TCmd := Kd.pair (Kd.int .i64) (Kd.pair (Kd.int .i64) (Kd.pair (Kd.int .i64) (Kd.pair Kd.string (Kd.pair Kd.string (Kd.pair (Kd.int .i64) kDig)))))
abbrev WCmd : TCmd → Prop := fun x => WI x.1 ∧ WI x.2.1 ∧ WI x.2.2.1 ∧ WS x.2.2.2.1 ∧ WS x.2.2.2.2.1 ∧ WI x.2.2.2.2.2.1 ∧ WDig x.2.2.2.2.2.2
theorem oCmd : Opens Tryz.prog 41 kCmd WCmd := by
  have F := Fields.cons (f := fldk "Kind" 39 0 0) oCK rfl (Fields.cons (f := fldk "Client" 3 1 8) oInt rfl (Fields.cons (f := fldk "Seq" 3 2 16) oInt rfl (Fields.cons (f := fldk "User" 9 3 24) oStr rfl (Fields.cons (f := fldk "Key" 9 4 40) oStr rfl (Fields.cons (f := fldk "Epoch" 3 5 56) oInt rfl (Fields.last (f := fldk "Root" 31 6 64) oDig rfl))))))
  exact opens_struct Tryz.underlying41 (by kernel_rfl) F
abbrev kCmds : Kd (List TCmd) := Kd.slice 41 kCmd
abbrev WCmds : List TCmd → Prop := fun xs => xs.length ≤ 9223372036854775807 ∧ ∀ x ∈ xs, WCmd x
theorem oCmds : Opens Tryz.prog 22 kCmds WCmds := opens_slice Tryz.underlying22 (by kernel_rfl) oCmd
def toCmd (x : TCmd) : Cmd := ⟨x.1, x.2.1, x.2.2.1, x.2.2.2.1, x.2.2.2.2.1, x.2.2.2.2.2.1, x.2.2.2.2.2.2⟩
theorem cmd_K {w : World} {c : TCmd} {cc : List Value} (h : kCmd.K w c cc) : c.2.2.2.2.2.2.length = 32 ∧ cc = ccells (toCmd c) := by
  obtain ⟨_, _, rfl, rfl, _, _, rfl, rfl, _, _, rfl, rfl, _, _, rfl, rfl, _, _, rfl, rfl, _, _, rfl, rfl, h7⟩ := h
  obtain ⟨h8, h9⟩ := Kd.arr_cells (n := 32) h7
  exact ⟨h8, by rw [h9]; rfl⟩
theorem csC_get (cs : List Cmd) (h : ∀ c ∈ cs, c.root.length = 32) (k : Nat) (u : Value) (hk : (csC cs)[k]? = some u) : ∃ c, cs[k / 38]? = some c ∧ (ccells c)[k % 38]? = some u := by
  have hl : k < (csC cs).length := (List.getElem?_eq_some_iff.1 hk).1
  rw [csC_len cs h] at hl
  have h1 : k / 38 < cs.length := by omega
  have hc := List.getElem?_eq_getElem h1
  have hr := h _ (List.getElem_mem h1)
  refine ⟨_, hc, ?_⟩
  have h2 : k % 38 < (ccells cs[k / 38]).length := by rw [ccells_len _ hr]; omega
  have h3 := List.getElem?_eq_getElem h2
  have h4 := csC_at cs h _ _ hc _ _ h3
  rw [show k / 38 * 38 + k % 38 = k by omega, hk] at h4
  rw [h3, h4]
theorem path_of {p : List Int} (h : WDig p) : PathOk p := ⟨h.1, fun x hx => by
  have := h.2 x hx
  simp [Lit.wf, IntKind.min, IntKind.max, IntKind.signed, IntKind.bits] at this
  omega⟩
theorem csR_of {w : World} {A : Option Addr} {cap : Nat} {xs : List TCmd} (hc : xs.length ≤ cap) (h : kCmd.C w A xs.length xs) : CsR w (.slice A xs.length cap) (xs.map toCmd) := by
  refine ⟨A, cap, by rw [List.length_map], by rw [List.length_map]; exact hc, fun h0 => ?_⟩
  rw [List.length_map] at h0
  obtain ⟨_, _, h3⟩ := h
  obtain ⟨ad, rfl, hx⟩ := h3 h0
  obtain ⟨b, off, spot⟩ := ad
  have hroot : ∀ c ∈ xs.map toCmd, c.root.length = 32 := fun c hc => by
    obtain ⟨x, hxm, rfl⟩ := List.mem_map.1 hc
    obtain ⟨i, hi⟩ := List.getElem?_of_mem hxm
    obtain ⟨cc, _, hk, _⟩ := hx i x hi
    exact (cmd_K hk).1
  have hspot : spot = none := by
    have hx0 : xs[0]? = some xs[0] := List.getElem?_eq_getElem h0
    obtain ⟨cc, _, hk, hcell⟩ := hx 0 _ hx0
    obtain ⟨_, rfl⟩ := cmd_K hk
    have := hcell 0 _ rfl
    simpa [Addr.add] using World.cell?_spot this
  subst hspot
  refine ⟨b, off, rfl, fun j u hj => ?_⟩
  obtain ⟨c, h1, h2⟩ := csC_get _ hroot j u hj
  rw [List.getElem?_map] at h1
  obtain ⟨x, hxx, rfl⟩ := Option.map_eq_some_iff.1 h1
  obtain ⟨cc, _, hk, hcell⟩ := hx _ x hxx
  obtain ⟨_, rfl⟩ := cmd_K hk
  have := hcell _ _ h2
  rw [Addr.add_lit] at this
  rw [← this]
  congr 2
  show off + j = off + (j / 38 * kCmd.sz + j % 38)
  have : kCmd.sz = 38 := rfl
  rw [this]
  omega
end Go.Proofs.YtadkeohohehmcaaGreatDoor.Top
