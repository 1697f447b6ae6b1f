/- Arguments of every kind opened: what can be read as data is of the kind that the printed contracts ask for. -/
import Derived.Test.YtadkeohohehmcaaGreatDoorWd
import Derived.ProofKit
import Derived.OpenShut
import Derived.Deep.Slices
namespace Go.Proofs.YtadkeohohehmcaaGreatDoor.Open
open Go.RowKit Go.ChangeShapes Go.WideShapes Go.ChangeAt Go.Deep Go.Proofs.YtadkeohohehmcaaGreatDoorW.PrintWords
set_option linter.unusedVariables false

/-- What reads as data of type t is of kind d, and meets WF. -/
structure Opens (P : Program) (t : TypeId) {α : Type} (d : Kd α) (WF : α → Prop) : Prop where
  cells : P.cellsOf t = d.sz
  get : ∀ {H : Type} {enc : TypeId × Value → H} {w : World} {base : Nat} {spare : Nat → Bool} {held : Bool} {fuel : Nat} {cs : List Value} {x : DataW H × List MemPlace},
    DataW.trod enc P w base spare held fuel t cs = some x → ∃ v : α, d.K w v cs ∧ WF v

section
variable {P : Program} {t e : TypeId}
theorem opens_int {k : IntKind} (ht : P.underlying t = some (.int k)) (hc : P.cellsOf t = 1) : Opens P t (Kd.int k) (fun n => (Lit.int k n).wf = true) :=
  ⟨hc, fun h => by obtain ⟨n, rfl, _, hw⟩ := DataW.trod_int ht h; exact ⟨n, rfl, hw⟩⟩
theorem opens_bool (ht : P.underlying t = some .bool) (hc : P.cellsOf t = 1) : Opens P t Kd.bool (fun _ => True) :=
  ⟨hc, fun h => by obtain ⟨n, rfl, _⟩ := DataW.trod_bool ht h; exact ⟨n, rfl, trivial⟩⟩
theorem opens_string (ht : P.underlying t = some .string) (hc : P.cellsOf t = 1) : Opens P t Kd.string (fun s => s.size ≤ 9223372036854775807) :=
  ⟨hc, fun h => by obtain ⟨n, rfl, _, hw⟩ := DataW.trod_string ht h; exact ⟨n, rfl, by unfold maxLen at hw; omega⟩⟩

theorem opens_slice {α : Type} {d : Kd α} {WF : α → Prop} (ht : P.underlying t = some (.slice e)) (hc : P.cellsOf t = 1) (E : Opens P e d WF) : Opens P t (Kd.slice e d) (fun xs => xs.length ≤ 9223372036854775807 ∧ ∀ x ∈ xs, WF x) := by
  refine ⟨hc, fun {H enc w base spare held fuel cs x} h => ?_⟩
  rcases open_slice ht h with ⟨rfl, _⟩ | ⟨a, len, cap, m, n, D, Pl, rfl, hb, hl, hm, hmm, hxx, hi⟩
  · exact ⟨[], ⟨none, 0, rfl, Nat.le_refl _, by simp, by simp, fun h => absurd h (by simp)⟩, by simp, by simp⟩
  · have hlm : len ≤ m := by rw [hmm]; split <;> omega
    have key : ∀ i, i < len → ∃ v : α, ∃ cs', w.cells? base (a.add (i * d.sz)) d.sz = some cs' ∧ d.K w v cs' ∧ WF v := by
      intro i hil
      obtain ⟨cs', h1, h2⟩ := hi i (by omega)
      obtain ⟨v, h3, h4⟩ := E.get h2
      rw [E.cells] at h1
      exact ⟨v, cs', h1, h3, h4⟩
    have : ∃ xs : List α, xs.length = len ∧ ∀ i v, xs[i]? = some v → ∃ cs', w.cells? base (a.add (i * d.sz)) d.sz = some cs' ∧ d.K w v cs' ∧ WF v := by
      clear hxx hlm hmm hi hl h hm
      induction len with
      | zero => exact ⟨[], rfl, fun i v h => by simp at h⟩
      | succ len ih =>
        obtain ⟨xs, hxl, hx⟩ := ih (fun i h => key i (by omega))
        obtain ⟨v, hv⟩ := key len (by omega)
        refine ⟨xs ++ [v], by simp [hxl], fun i u h => ?_⟩
        by_cases hlt : i < len
        · rw [List.getElem?_append_left (by omega)] at h
          exact hx i u h
        · have hlen : i < (xs ++ [v]).length := (List.getElem?_eq_some_iff.1 h).1
          simp at hlen
          obtain rfl : i = len := by omega
          rw [List.getElem?_append_right (by omega)] at h
          simp [hxl] at h
          subst h
          exact hv
    obtain ⟨xs, hxl, hx⟩ := this
    subst hxl
    unfold maxLen at hm
    refine ⟨xs, ⟨some a, cap, rfl, hl, rfl, by omega, fun _ => ⟨a, rfl, fun j p hj => ?_⟩⟩, by omega, fun v hv => ?_⟩
    · obtain ⟨cs', h1, h2, _⟩ := hx j p hj
      obtain ⟨_, hcl, hat⟩ := World.cells?_some h1
      refine ⟨cs', hcl, h2, fun i u hiu => ?_⟩
      have hlt : i < cs'.length := (List.getElem?_eq_some_iff.1 hiu).1
      have h5 := hat i (by omega)
      rw [← Go.Deep.add_add, h5, hiu]
    · obtain ⟨i, hi2⟩ := List.getElem?_of_mem hv
      obtain ⟨_, _, _, h⟩ := hx i v hi2
      exact h

/-- A struct's fields, one behind the other. -/
inductive Fields (P : Program) : List Field → Nat → {α : Type} → Kd α → (α → Prop) → Prop
  | last {f : Field} {off : Nat} {α : Type} {d : Kd α} {WF : α → Prop} : Opens P f.type d WF → f.offset = off → Fields P [f] off d WF
  | cons {f : Field} {fs : List Field} {off : Nat} {α β : Type} {d : Kd α} {WF : α → Prop} {d' : Kd β} {WF' : β → Prop} : Opens P f.type d WF → f.offset = off → Fields P fs (off + d.sz) d' WF' → Fields P (f :: fs) off (Kd.pair d d') (fun x => WF x.1 ∧ WF' x.2)

theorem Fields.get {H : Type} {enc : TypeId × Value → H} {w : World} {base : Nat} {spare : Nat → Bool} {held : Bool} {n : Nat} {cs : List Value} {fs : List Field} {off : Nat} {α : Type} {d : Kd α} {WF : α → Prop} (F : Fields P fs off d WF) (hl : cs.length = off + d.sz)
    (h : ∀ (j : Nat) (f : Field), fs[j]? = some f → ∃ y, DataW.trod enc P w base spare held n f.type ((cs.drop f.offset).take (P.cellsOf f.type)) = some y) : ∃ v : α, d.K w v (cs.drop off) ∧ WF v := by
  induction F with
  | last E ho =>
    obtain ⟨y, hy⟩ := h 0 _ rfl
    obtain ⟨v, h1, h2⟩ := E.get hy
    rw [E.cells, ho, List.take_of_length_le (by rw [List.length_drop]; omega)] at h1
    exact ⟨v, h1, h2⟩
  | @cons f fs off α β d WF d' WF' E ho F ih =>
    have hsz : (Kd.pair d d').sz = d.sz + d'.sz := rfl
    rw [hsz] at hl
    obtain ⟨y, hy⟩ := h 0 _ rfl
    obtain ⟨v, h1, h2⟩ := E.get hy
    rw [E.cells, ho] at h1
    obtain ⟨u, h3, h4⟩ := ih (by omega) (fun j g hj => h (j + 1) g (by simpa using hj))
    refine ⟨(v, u), ⟨(cs.drop off).take d.sz, cs.drop (off + d.sz), ?_, h1, h3⟩, h2, h4⟩
    rw [← List.drop_drop, List.take_append_drop]

theorem opens_struct {fs : Array Field} {α : Type} {d : Kd α} {WF : α → Prop} (ht : P.underlying t = some (.struct fs)) (hc : P.cellsOf t = d.sz) (F : Fields P fs.toList 0 d WF) : Opens P t d WF := by
  refine ⟨hc, fun {H enc w base spare held fuel cs x} h => ?_⟩
  obtain ⟨xs, n, _, hx, hl, hlen, hg⟩ := DataW.trod_struct ht h
  obtain ⟨v, h1, h2⟩ := F.get (cs := cs) (w := w) (base := base) (enc := enc) (spare := spare) (held := held) (n := n) (by omega) (fun j f hj => by
    have hj2 : fs[j]? = some f := by simpa using hj
    have := hg j f hj2
    have hjl : j < xs.length := by
      have := (Array.getElem?_eq_some_iff.1 hj2).1
      omega
    exact ⟨xs[j], this.trans (List.getElem?_eq_getElem hjl)⟩)
  exact ⟨v, by simpa using h1, h2⟩

theorem opens_array {n : Nat} {α : Type} {d : Kd α} {WF : α → Prop} (ht : P.underlying t = some (.array n e)) (hs : 0 < d.sz) (hc : P.cellsOf t = n * d.sz) (E : Opens P e d WF) : Opens P t (Kd.arr n d hs) (fun xs => xs.length = n ∧ ∀ x ∈ xs, WF x) := by
  refine ⟨hc, fun {H enc w base spare held fuel cs x} h => ?_⟩
  obtain ⟨xs, m, _, hx, hl, hlen, hg⟩ := DataW.trod_array ht h
  have key : ∀ i, i < n → ∃ v : α, d.K w v ((cs.drop (i * d.sz)).take d.sz) ∧ WF v := by
    intro i hi
    have h1 := hg i hi
    rw [E.cells, List.getElem?_eq_getElem (by omega)] at h1
    exact E.get h1
  have : ∀ k, k ≤ n → ∃ vs : List α, vs.length = k ∧ ∀ i v, vs[i]? = some v → d.K w v ((cs.drop (i * d.sz)).take d.sz) ∧ WF v := by
    intro k
    induction k with
    | zero => exact fun _ => ⟨[], rfl, fun i v h => by simp at h⟩
    | succ k ih =>
      intro hk
      obtain ⟨vs, hvl, hv⟩ := ih (by omega)
      obtain ⟨v, hv2⟩ := key k (by omega)
      refine ⟨vs ++ [v], by simp [hvl], fun i u h => ?_⟩
      by_cases hlt : i < k
      · rw [List.getElem?_append_left (by omega)] at h
        exact hv i u h
      · have hlen2 : i < (vs ++ [v]).length := (List.getElem?_eq_some_iff.1 h).1
        simp at hlen2
        obtain rfl : i = k := by omega
        rw [List.getElem?_append_right (by omega)] at h
        simp [hvl] at h
        subst h
        exact hv2
  obtain ⟨vs, hvl, hv⟩ := this n (Nat.le_refl _)
  refine ⟨vs, ⟨hvl, by rw [hvl, hl, hc], fun j p hj => (hv j p hj).1⟩, hvl, fun v hvm => ?_⟩
  obtain ⟨i, hi2⟩ := List.getElem?_of_mem hvm
  exact (hv i v hi2).2
/-- A kind in another Lean type. -/
theorem Opens.iso {α β : Type} {d : Kd α} {WF : α → Prop} (E : Opens P t d WF) (f : β → α) (g : α → β) (hg : ∀ x, f (g x) = x) : Opens P t (Kd.iso d f) (fun x => WF (f x)) :=
  ⟨E.cells, fun h => by obtain ⟨v, h1, h2⟩ := E.get h; exact ⟨g v, by show d.K _ (f (g v)) _; rw [hg]; exact h1, by rw [hg]; exact h2⟩⟩
end
end Go.Proofs.YtadkeohohehmcaaGreatDoor.Open
