/- Several texts in one. -/
import Derived.Test.YtadkeohohehmcaaGreatDoorLeC
import Derived.Test.YtadkeohohehmcaaGreatDoorBeA
import Derived.Test.YtadkeohohehmcaaGreatDoorMayA
import Derived.Test.YtadkeohohehmcaaGreatDoorIntA
section
/- The order of names; users and clients that rise. -/
namespace Go.Proofs.YtadkeohohehmcaaGreatDoor.Top
open Go.RowKit Go.Proofs.YtadkeohohehmcaaGreatDoorW.PrintWords Go.Proofs.YtadkeohohehmcaaGreatDoor.PTop
set_option linter.unusedVariables false
set_option linter.unusedSimpArgs false

theorem cb_neg : ∀ x y : List UInt8, Op.bytesLess x y = true ↔ Lib.compareBytes x y < 0
  | [], [] => by simp [Op.bytesLess, Lib.compareBytes]
  | _ :: _, [] => by simp [Op.bytesLess, Lib.compareBytes]
  | [], _ :: _ => by simp [Op.bytesLess, Lib.compareBytes]
  | a :: x, b :: y => by
    have ih := cb_neg x y
    simp only [Op.bytesLess, Lib.compareBytes]
    by_cases h1 : a < b
    · simp [h1]
    · by_cases h2 : b < a
      · have h3 : a ≠ b := fun e => by subst e; exact absurd h2 (by simp [UInt8.lt_irrefl])
        simp [h1, h2, h3]
      · have h3 : a = b := UInt8.le_antisymm (UInt8.not_lt.1 h2) (UInt8.not_lt.1 h1)
        subst h3
        simp [h1, ih]
theorem cb_zero : ∀ x y : List UInt8, Lib.compareBytes x y = 0 ↔ x = y
  | [], [] => by simp [Lib.compareBytes]
  | _ :: _, [] => by simp [Lib.compareBytes]
  | [], _ :: _ => by simp [Lib.compareBytes]
  | a :: x, b :: y => by
    have ih := cb_zero x y
    simp only [Lib.compareBytes]
    by_cases h1 : a < b
    · have h3 : a ≠ b := fun e => by subst e; exact absurd h1 (by simp [UInt8.lt_irrefl])
      simp [h1, h3]
    · by_cases h2 : b < a
      · have h3 : a ≠ b := fun e => by subst e; exact absurd h2 (by simp [UInt8.lt_irrefl])
        simp [h1, h2, h3]
      · have h3 : a = b := UInt8.le_antisymm (UInt8.not_lt.1 h2) (UInt8.not_lt.1 h1)
        subst h3
        simp [h1, ih]
theorem cb_swap : ∀ x y : List UInt8, Lib.compareBytes y x = - Lib.compareBytes x y
  | [], [] => rfl
  | _ :: _, [] => rfl
  | [], _ :: _ => rfl
  | a :: x, b :: y => by
    have ih := cb_swap x y
    simp only [Lib.compareBytes]
    by_cases h1 : a < b
    · have h2 : ¬ b < a := UInt8.not_lt.2 (UInt8.le_of_lt h1)
      simp [h1, h2]
    · by_cases h2 : b < a
      · simp [h1, h2]
      · simp [h1, h2, ih]
theorem cb_trans : ∀ x y z : List UInt8, Lib.compareBytes x y < 0 → Lib.compareBytes y z < 0 → Lib.compareBytes x z < 0
  | [], [], _, h, _ => by simp [Lib.compareBytes] at h
  | _ :: _, [], _, h, _ => by simp [Lib.compareBytes] at h
  | _, _ :: _, [], _, h => by simp [Lib.compareBytes] at h
  | [], _ :: _, _ :: _, _, _ => by simp [Lib.compareBytes]
  | a :: x, b :: y, c :: z, h, k => by
    have ih := cb_trans x y z
    simp only [Lib.compareBytes] at h k ⊢
    by_cases h1 : a < b
    · by_cases k1 : b < c
      · have := UInt8.lt_trans h1 k1
        simp [this]
      · by_cases k2 : c < b
        · simp [k1, k2] at k
        · have e : b = c := UInt8.le_antisymm (UInt8.not_lt.1 k2) (UInt8.not_lt.1 k1)
          subst e
          simp [h1]
    · by_cases h2 : b < a
      · simp [h1, h2] at h
      · have e : a = b := UInt8.le_antisymm (UInt8.not_lt.1 h2) (UInt8.not_lt.1 h1)
        subst e
        by_cases k1 : a < c
        · simp [k1]
        · by_cases k2 : c < a
          · simp [k1, k2] at k
          · simp [h1] at h
            simp [k1, k2] at k
            simp [k1, k2]
            exact ih h k
theorem cmpN_swap (a b : ByteArray) : cmpN b a = - cmpN a b := cb_swap _ _
theorem cmpN_trans {a b c : ByteArray} (h : cmpN a b < 0) (k : cmpN b c < 0) : cmpN a c < 0 := cb_trans _ _ _ h k
theorem cmpN_eq {a b : ByteArray} (h : cmpN a b = 0) : a = b := by
  have := (cb_zero _ _).1 h
  exact ByteArray.ext (Array.toList_inj.1 this)
/-- One string stands behind another: the other is less. -/
theorem sgt_iff (a b : ByteArray) : SGt a b = true ↔ cmpN b a < 0 := by
  unfold SGt
  rw [Lib.toList_data, Lib.toList_data]
  have e1 := cb_neg a.data.toList b.data.toList
  have e2 := cb_zero a.data.toList b.data.toList
  have e3 : cmpN b a = - Lib.compareBytes a.data.toList b.data.toList := cb_swap _ _
  rw [e3]
  generalize Lib.compareBytes a.data.toList b.data.toList = n at *
  cases h1 : Op.bytesLess a.data.toList b.data.toList
  · rw [h1] at e1
    have n1 : ¬ n < 0 := fun h => by simpa using e1.2 h
    by_cases h2 : a.data.toList = b.data.toList
    · have := e2.2 h2
      subst this
      simp [h2]
    · have : n ≠ 0 := fun h => h2 (e2.1 h)
      have : 0 < n := by omega
      have h3 : ¬ a.data = b.data := fun h => h2 (by rw [h])
      simp [h3]
      omega
  · have := e1.1 h1
    simp
    omega
theorem sgt_empty (a : ByteArray) (h : 1 ≤ a.size) : SGt a ⟨#[]⟩ = true := by
  rw [sgt_iff]
  have : 1 ≤ a.data.toList.length := h
  unfold cmpN
  cases hl : a.data.toList with
  | nil => rw [hl] at this; simp at this
  | cons x r => simp [Lib.compareBytes]

/-- A user in form, e epochs being sealed. -/
structure UOk (e : Int) (u : Usr) : Prop where
  n1 : 1 ≤ u.name.size
  n2 : u.name.size ≤ 32
  ne : u.vs ≠ []
  ok : CheckOk u.vs
  last : (lastF u.vs).f0 ≤ e + 1
theorem UOk.mono {e e' : Int} {u : Usr} (h : UOk e u) (he : e ≤ e') : UOk e' u := ⟨h.n1, h.n2, h.ne, h.ok, by have := h.last; omega⟩
/-- Users that rise, behind a name. -/
def ChU (e : Int) : ByteArray → List Usr → Prop
  | _, [] => True
  | p, u :: r => SGt u.name p = true ∧ UOk e u ∧ ChU e u.name r
def wasG (p : ByteArray) (us : List Usr) : ByteArray := (us.getLast?.map Usr.name).getD p
theorem wasG_cons (p : ByteArray) (u : Usr) (r : List Usr) : wasG p (u :: r) = wasG u.name r := by
  unfold wasG
  rw [List.getLast?_cons]
  cases r.getLast? <;> rfl
theorem chU_of {e : Int} : ∀ {us : List Usr} {p : ByteArray}, (∀ (i : Nat) u, us[i]? = some u → SGt u.name (wasG p (us.take i)) = true ∧ UOk e u) → ChU e p us
  | [], _, _ => trivial
  | u :: r, p, h => by
    obtain ⟨a, b⟩ := h 0 u rfl
    refine ⟨a, b, chU_of fun i v hv => ?_⟩
    have := h (i + 1) v (by simpa using hv)
    rw [List.take_succ_cons, wasG_cons] at this
    exact this
theorem ChU.at_ {e : Int} : ∀ {us : List Usr} {p : ByteArray}, ChU e p us → ∀ (i : Nat) u, us[i]? = some u → SGt u.name (wasG p (us.take i)) = true ∧ UOk e u
  | [], _, _, i, u, h => by simp at h
  | x :: r, p, ⟨a, b, c⟩, 0, u, h => by
    obtain rfl : x = u := by simpa using h
    exact ⟨a, b⟩
  | x :: r, p, ⟨a, b, c⟩, i + 1, u, h => by
    have := ChU.at_ c i u (by simpa using h)
    rw [List.take_succ_cons, wasG_cons]
    exact this
theorem UsIn.ch {e : Int} {us : List Usr} (h : UsIn e us) : ChU e ⟨#[]⟩ us := chU_of fun i u hu => by
  obtain ⟨a, b, c, d, f, g⟩ := h.at_ i u hu
  exact ⟨a, b, c, d, f, g⟩
theorem usIn_of {e : Int} {us : List Usr} (hl : us.length ≤ 64) (h : ChU e ⟨#[]⟩ us) : UsIn e us := ⟨hl, fun i u hu => by
  obtain ⟨a, b⟩ := h.at_ i u hu
  exact ⟨a, b.n1, b.n2, b.ne, b.ok, b.last⟩⟩
theorem ChU.mono {e e' : Int} (he : e ≤ e') : ∀ {us : List Usr} {p : ByteArray}, ChU e p us → ChU e' p us
  | [], _, _ => trivial
  | u :: r, p, ⟨a, b, c⟩ => ⟨a, b.mono he, ChU.mono he c⟩
theorem ChU.gt {e : Int} : ∀ {us : List Usr} {p : ByteArray}, ChU e p us → ∀ (i : Nat) u, us[i]? = some u → cmpN p u.name < 0
  | [], _, _, i, u, h => by simp at h
  | x :: r, p, ⟨a, b, c⟩, 0, u, h => by
    obtain rfl : x = u := by simpa using h
    exact (sgt_iff _ _).1 a
  | x :: r, p, ⟨a, b, c⟩, i + 1, u, h => cmpN_trans ((sgt_iff _ _).1 a) (ChU.gt c i u (by simpa using h))
theorem ChU.rises {e : Int} : ∀ {us : List Usr} {p : ByteArray}, ChU e p us → ∀ (i j : Nat) u v, i < j → us[i]? = some u → us[j]? = some v → cmpN u.name v.name < 0
  | [], _, _, i, j, u, v, _, h, _ => by simp at h
  | x :: r, p, ⟨a, b, c⟩, 0, j + 1, u, v, _, h, k => by
    obtain rfl : x = u := by simpa using h
    exact ChU.gt c j v (by simpa using k)
  | x :: r, p, ⟨a, b, c⟩, i + 1, j + 1, u, v, hij, h, k => ChU.rises c i j u v (by omega) (by simpa using h) (by simpa using k)
theorem nameAt_get {us : List Usr} {i : Nat} {u : Usr} (h : us[i]? = some u) : nameAt us i = u.name := by unfold nameAt; rw [h]; rfl
theorem ChU.rise {e : Int} {us : List Usr} {p : ByteArray} (h : ChU e p us) : Rise us := fun nm a b hab hb hlt => by
  rcases Nat.eq_or_lt_of_le hab with rfl | hab
  · exact hlt
  · have ha : a < us.length := by omega
    have e1 := nameAt_get (List.getElem?_eq_getElem ha)
    have e2 := nameAt_get (List.getElem?_eq_getElem hb)
    rw [e2] at hlt
    rw [e1]
    exact cmpN_trans (h.rises a b _ _ hab (List.getElem?_eq_getElem ha) (List.getElem?_eq_getElem hb)) hlt
/-- A user comes in where it belongs. -/
theorem ChU.ins {e : Int} {x : Usr} (hx : UOk e x) : ∀ {us : List Usr} {p : ByteArray} (i : Nat), ChU e p us → i ≤ us.length → SGt x.name p = true → (∀ t u, t < i → us[t]? = some u → cmpN u.name x.name < 0) → (∀ u, us[i]? = some u → cmpN x.name u.name < 0) → ChU e p (us.take i ++ [x] ++ us.drop i)
  | us, p, 0, h, _, hp, _, hhi => by
    refine ⟨hp, hx, ?_⟩
    show ChU e x.name us
    cases us with
    | nil => trivial
    | cons u r => exact ⟨(sgt_iff _ _).2 (hhi u rfl), h.2.1, h.2.2⟩
  | [], p, i + 1, h, hl, _, _, _ => by simp at hl
  | u :: r, p, i + 1, ⟨a, b, c⟩, hl, hp, hlo, hhi => by
    refine ⟨a, b, ?_⟩
    exact ChU.ins hx i c (by simpa using hl) ((sgt_iff _ _).2 (hlo 0 u (by omega) rfl)) (fun t v ht hv => hlo (t + 1) v (by omega) (by simpa using hv)) (fun v hv => hhi v (by simpa using hv))
theorem ChU.set {e : Int} {x : Usr} (hx : UOk e x) : ∀ {us : List Usr} {p : ByteArray} (i : Nat) (u : Usr), ChU e p us → us[i]? = some u → x.name = u.name → ChU e p (us.set i x)
  | [], _, i, u, _, h, _ => by simp at h
  | y :: r, p, 0, u, ⟨a, b, c⟩, h, hn => by
    obtain rfl : y = u := by simpa using h
    exact ⟨by rw [hn]; exact a, hx, by rw [hn]; exact c⟩
  | y :: r, p, i + 1, u, ⟨a, b, c⟩, h, hn => ⟨a, b, ChU.set hx i u c (by simpa using h) hn⟩

/-- A session in form. -/
structure SOk (e : Int) (s : Ses) : Prop where
  c4 : s.c ≤ 4
  s1 : 1 ≤ s.s
  s2 : s.s ≤ 1000000
  k1 : 0 ≤ s.code
  k2 : s.code ≤ 65535
  e1 : 0 ≤ s.e
  e2 : s.e ≤ e
def ChS (e : Int) : Int → List Ses → Prop
  | _, [] => True
  | p, s :: r => p < s.c ∧ SOk e s ∧ ChS e s.c r
def lastG (p : Int) (ss : List Ses) : Int := (ss.getLast?.map Ses.c).getD p
theorem lastG_cons (p : Int) (u : Ses) (r : List Ses) : lastG p (u :: r) = lastG u.c r := by
  unfold lastG
  rw [List.getLast?_cons]
  cases r.getLast? <;> rfl
theorem chS_of {e : Int} : ∀ {us : List Ses} {p : Int}, (∀ (i : Nat) u, us[i]? = some u → lastG p (us.take i) < u.c ∧ SOk e u) → ChS e p us
  | [], _, _ => trivial
  | u :: r, p, h => by
    obtain ⟨a, b⟩ := h 0 u rfl
    refine ⟨a, b, chS_of fun i v hv => ?_⟩
    have := h (i + 1) v (by simpa using hv)
    rw [List.take_succ_cons, lastG_cons] at this
    exact this
theorem ChS.at_ {e : Int} : ∀ {us : List Ses} {p : Int}, ChS e p us → ∀ (i : Nat) u, us[i]? = some u → lastG p (us.take i) < u.c ∧ SOk e u
  | [], _, _, i, u, h => by simp at h
  | x :: r, p, ⟨a, b, c⟩, 0, u, h => by
    obtain rfl : x = u := by simpa using h
    exact ⟨a, b⟩
  | x :: r, p, ⟨a, b, c⟩, i + 1, u, h => by
    have := ChS.at_ c i u (by simpa using h)
    rw [List.take_succ_cons, lastG_cons]
    exact this
theorem ChS.len {e : Int} : ∀ {us : List Ses} {p : Int}, ChS e p us → p ≤ 4 → p + us.length ≤ 4
  | [], p, _, h => by simpa using h
  | u :: r, p, ⟨a, b, c⟩, h => by
    have := ChS.len c b.c4
    simp only [List.length_cons]
    omega
theorem SsIn.ch {e : Int} {ss : List Ses} (h : SsIn e ss) : ChS e 0 ss := chS_of fun i u hu => by
  obtain ⟨a, b, c, d, f, g, k, l⟩ := h.at_ i u hu
  exact ⟨a, b, c, d, f, g, k, l⟩
theorem ssIn_of {e : Int} {ss : List Ses} (h : ChS e 0 ss) : SsIn e ss := ⟨by have := h.len (by omega); omega, fun i u hu => by
  obtain ⟨a, b⟩ := h.at_ i u hu
  exact ⟨a, b.c4, b.s1, b.s2, b.k1, b.k2, b.e1, b.e2⟩⟩
theorem ChS.mono {e e' : Int} (he : e ≤ e') : ∀ {us : List Ses} {p : Int}, ChS e p us → ChS e' p us
  | [], _, _ => trivial
  | u :: r, p, ⟨a, b, c⟩ => ⟨a, ⟨b.c4, b.s1, b.s2, b.k1, b.k2, b.e1, by have := b.e2; omega⟩, ChS.mono he c⟩
theorem ChS.gt {e : Int} : ∀ {us : List Ses} {p : Int}, ChS e p us → ∀ (i : Nat) u, us[i]? = some u → p < u.c
  | [], _, _, i, u, h => by simp at h
  | x :: r, p, ⟨a, b, c⟩, 0, u, h => by
    obtain rfl : x = u := by simpa using h
    exact a
  | x :: r, p, ⟨a, b, c⟩, i + 1, u, h => Int.lt_trans a (ChS.gt c i u (by simpa using h))
theorem ChS.rises {e : Int} : ∀ {us : List Ses} {p : Int}, ChS e p us → ∀ (i j : Nat) u v, i < j → us[i]? = some u → us[j]? = some v → u.c < v.c
  | [], _, _, i, j, u, v, _, h, _ => by simp at h
  | x :: r, p, ⟨a, b, c⟩, 0, j + 1, u, v, _, h, k => by
    obtain rfl : x = u := by simpa using h
    exact ChS.gt c j v (by simpa using k)
  | x :: r, p, ⟨a, b, c⟩, i + 1, j + 1, u, v, hij, h, k => ChS.rises c i j u v (by omega) (by simpa using h) (by simpa using k)
theorem cliAt_get {us : List Ses} {i : Nat} {u : Ses} (h : us[i]? = some u) : cliAt us i = u.c := by unfold cliAt; rw [h]; rfl
theorem ci_lt (x y : Int) : Lib.compareInt x y < 0 ↔ x < y := by unfold Lib.compareInt; split <;> (try split) <;> omega
theorem ci_ge (x y : Int) : 0 ≤ Lib.compareInt x y ↔ y ≤ x := by unfold Lib.compareInt; split <;> (try split) <;> omega
theorem ci_eq (x y : Int) : Lib.compareInt x y = 0 ↔ x = y := by unfold Lib.compareInt; split <;> (try split) <;> omega
theorem ChS.rise {e : Int} {us : List Ses} {p : Int} (h : ChS e p us) (n : Int) : ∀ a b, a ≤ b → b < us.length → Lib.compareInt (cliAt us b) n < 0 → Lib.compareInt (cliAt us a) n < 0 := fun a b hab hb hlt => by
  rcases Nat.eq_or_lt_of_le hab with rfl | hab
  · exact hlt
  · have ha : a < us.length := by omega
    rw [cliAt_get (List.getElem?_eq_getElem hb), ci_lt] at hlt
    rw [cliAt_get (List.getElem?_eq_getElem ha), ci_lt]
    have := h.rises a b _ _ hab (List.getElem?_eq_getElem ha) (List.getElem?_eq_getElem hb)
    omega
theorem ChS.ins {e : Int} {x : Ses} (hx : SOk e x) : ∀ {us : List Ses} {p : Int} (i : Nat), ChS e p us → i ≤ us.length → p < x.c → (∀ t u, t < i → us[t]? = some u → u.c < x.c) → (∀ u, us[i]? = some u → x.c < u.c) → ChS e p (us.take i ++ [x] ++ us.drop i)
  | us, p, 0, h, _, hp, _, hhi => by
    refine ⟨hp, hx, ?_⟩
    show ChS e x.c us
    cases us with
    | nil => trivial
    | cons u r => exact ⟨hhi u rfl, h.2.1, h.2.2⟩
  | [], p, i + 1, h, hl, _, _, _ => by simp at hl
  | u :: r, p, i + 1, ⟨a, b, c⟩, hl, hp, hlo, hhi => by
    refine ⟨a, b, ?_⟩
    exact ChS.ins hx i c (by simpa using hl) (hlo 0 u (by omega) rfl) (fun t v ht hv => hlo (t + 1) v (by omega) (by simpa using hv)) (fun v hv => hhi v (by simpa using hv))
theorem ChS.set {e : Int} {x : Ses} (hx : SOk e x) : ∀ {us : List Ses} {p : Int} (i : Nat) (u : Ses), ChS e p us → us[i]? = some u → x.c = u.c → ChS e p (us.set i x)
  | [], _, i, u, _, h, _ => by simp at h
  | y :: r, p, 0, u, ⟨a, b, c⟩, h, hn => by
    obtain rfl : y = u := by simpa using h
    exact ⟨by rw [hn]; exact a, hx, by rw [hn]; exact c⟩
  | y :: r, p, i + 1, u, ⟨a, b, c⟩, h, hn => ⟨a, b, ChS.set hx i u c (by simpa using h) hn⟩
end Go.Proofs.YtadkeohohehmcaaGreatDoor.Top
end
section
/- What a command makes of a directory; it stays in form, and its heads stay the epochs' roots. -/
namespace Go.Proofs.YtadkeohohehmcaaGreatDoor.Top
open Go.RowKit Go.Proofs.YtadkeohohehmcaaGreatDoorW.PrintWords Go.Proofs.YtadkeohohehmcaaGreatDoor.PTop
set_option linter.unusedVariables false
set_option linter.unusedSimpArgs false

/-- What Apply answers, and what it makes. -/
inductive AppR (KS : List Int) (d : Dir) (c : Cmd) : Int → Dir → Prop
  | form (d' : Dir) : mayC c = false → AppR KS d c 70 d'
  | seal_ (d' : Dir) : mayC c = true → c.k = 4 → (c.e = d.e + 1 → d' = ⟨c.e, d.us, d.hs, d.ss⟩) → AppR KS d c (if c.e = d.e + 1 then 0 else 72) d'
  | intent (d' : Dir) : mayC c = true → c.k = 5 → (intCode KS d c = 0 → d' = intD KS d c) → AppR KS d c (intCode KS d c) d'
  | request (d' : Dir) (i j : Nat) : mayC c = true → (c.k = 1 ∨ c.k = 2 ∨ c.k = 3) → Pos d.us.length (fun t => cmpN (nameAt d.us t) c.u) i → Pos d.ss.length (fun t => Lib.compareInt (cliAt d.ss t) c.c) j → (reqCode d c j = 0 → d' = reqD d c i j) → AppR KS d c (reqCode d c j) d'

theorem winB_iff {a lo hi : Int} : winB a lo hi = true ↔ lo ≤ a ∧ a ≤ hi := by simp [winB]
structure MayK (c : Cmd) : Prop where
  key : keyOk c = true
  c1 : 1 ≤ c.c
  c2 : c.c ≤ 4
  s1 : 1 ≤ c.s
  s2 : c.s ≤ 1000000
  u1 : 1 ≤ c.u.size
  u2 : c.u.size ≤ 32
theorem may_k {c : Cmd} (h : mayC c = true) (hk : c.k = 1 ∨ c.k = 2 ∨ c.k = 3) : MayK c := by
  unfold mayC at h
  rw [if_pos hk] at h
  simp only [Bool.and_eq_true, winB_iff] at h
  obtain ⟨⟨⟨⟨_, a⟩, b⟩, c⟩, d⟩ := h
  exact ⟨a, b.1, b.2, c.1, c.2, by have := d.1; omega, by have := d.2; omega⟩
theorem may_e {c : Cmd} (h : mayC c = true) (hk : c.k = 4 ∨ c.k = 5) : 1 ≤ c.e ∧ c.e ≤ 200 := by
  unfold mayC at h
  rw [if_neg (by omega), if_pos (by omega)] at h
  simp only [Bool.and_eq_true, winB_iff] at h
  exact h.2
theorem may_ks {c : Cmd} (h : mayC c = true) : (c.k = 1 ∨ c.k = 2 ∨ c.k = 3) ∨ c.k = 4 ∨ c.k = 5 := by
  unfold mayC at h
  split at h
  · rename_i h1
    exact Or.inl h1
  · split at h
    · rename_i h1
      omega
    · exact absurd h (by simp)
theorem mayB_of {e : Int} {c : Cmd} (h0 : 0 ≤ e) (h1 : e < 200) (hk : c.k = 1 ∨ c.k = 2 ∨ c.k = 3) (h : keyOk c = true) : mayB ⟨e + 1, c.k, c.key⟩ = true := by
  unfold keyOk at h
  unfold mayB
  dsimp only
  have a : decide (1 ≤ e + 1) = true := decide_eq_true (by omega)
  have b : decide (e + 1 ≤ 200) = true := decide_eq_true (by omega)
  rw [a, b]
  split at h
  · rename_i h3
    have : c.key.size = 0 := (toList_nil c.key).1 (by simpa using h)
    simp [h3, this]
  · rename_i h3
    rw [winB_iff] at h
    have x : ¬ c.key.size = 0 := by omega
    have y : c.key.size ≤ 64 := by omega
    have z : c.k = 1 ∨ c.k = 2 := by omega
    rcases z with z | z <;> simp [z, x, y]
theorem reqOk_of {KS : List Int} {d : Dir} {c : Cmd} (hin : DirIn KS d) (hr : PathOk c.root) (hm : mayC c = true) (hk : c.k = 1 ∨ c.k = 2 ∨ c.k = 3) : ReqOk d c := by
  have m := may_k hm hk
  have u := hin.us.ch
  have s := hin.ss.ch
  have sl := hin.ss.len
  exact ⟨⟨hin.us.len, u.rise, hin.lo, hin.hi, by omega, by omega, fun h => mayB_of hin.lo (by have := hin.hi; omega) hk m.key, fun x hx => by
    obtain ⟨i, hi⟩ := List.getElem?_of_mem hx
    have := (u.at_ i x hi).2
    exact ⟨this.ok, this.last⟩⟩, by omega, hr.len, s.rise c.c⟩
theorem usOk_of {KS : List Int} {d : Dir} (hin : DirIn KS d) : ∀ u ∈ d.us, UsOk u := fun x hx => by
  obtain ⟨i, hi⟩ := List.getElem?_of_mem hx
  have := (hin.us.ch.at_ i x hi).2
  exact ⟨this.n2, this.ok⟩
theorem hdOk_of {KS : List Int} {d : Dir} (hin : DirIn KS d) : ∀ h ∈ d.hs, HdOk h := fun x hx => by
  obtain ⟨i, hi⟩ := List.getElem?_of_mem hx
  exact (hin.hs.at_ i x hi).2.1
theorem hsLen_of {KS : List Int} {d : Dir} (hin : DirIn KS d) : d.hs.length ≤ 200 := by
  have := hin.hs.len
  have := hin.hi
  omega
theorem intOk_of {KS : List Int} {d : Dir} {c : Cmd} (hin : DirIn KS d) (hr : PathOk c.root) : IntOk d c :=
  ⟨usOk_of hin, by have := hin.us.len; omega, hdOk_of hin, hsLen_of hin, hr⟩

theorem lastF_snoc (vs : List S68) (x : S68) : lastF (vs ++ [x]) = x := by simp [lastF]
theorem check_snoc {vs : List S68} {x : S68} (h : CheckOk vs) (hm : mayB x = true) (hle : (lastF vs).f0 ≤ x.f0) (hn : nextF vs x = 0) : CheckOk (vs ++ [x]) := by
  unfold nextF at hn
  split at hn
  · exact absurd hn (by decide)
  · rename_i h1
    split at hn
    · exact absurd hn (by decide)
    · rename_i h2
      split at hn
      · exact absurd hn (by decide)
      · rename_i h3
        have hl := h.1
        refine ⟨by rw [List.length_append, List.length_singleton]; omega, fun i y hy => ?_⟩
        rcases Nat.lt_trichotomy i vs.length with hi | hi | hi
        · rw [List.getElem?_append_left hi] at hy
          rw [List.take_append_of_le_length (by omega)]
          exact h.2 i y hy
        · subst hi
          rw [List.getElem?_append_right (Nat.le_refl _), Nat.sub_self] at hy
          obtain rfl : x = y := by simpa using hy
          rw [List.take_append_of_le_length (Nat.le_refl _), List.take_length]
          refine ⟨hm, hle, ?_⟩
          cases ho : opn (lastF vs)
          · have : ¬ x.f1 = 1 := fun e => h1 ⟨e, ho⟩
            simp [this]
          · have : x.f1 = 1 := by
              by_cases e : x.f1 = 1
              · exact e
              · exact absurd ⟨e, ho⟩ h2
            simp [this]
        · rw [List.getElem?_eq_none (by rw [List.length_append, List.length_singleton]; omega)] at hy
          cases hy
theorem atF_snoc (e : Int) (x : S68) (hx : e < x.f0) : ∀ vs : List S68, atF e (vs ++ [x]) = atF e vs
  | [] => by
    unfold atF
    rw [List.nil_append, List.takeWhile_cons_of_neg (by simp; omega)]
    rfl
  | v :: r => by
    have ih := atF_snoc e x hx r
    unfold atF at ih ⊢
    rw [List.cons_append]
    by_cases h : v.f0 ≤ e
    · rw [List.takeWhile_cons_of_pos (by simpa using h), List.takeWhile_cons_of_pos (by simpa using h), ih]
    · rw [List.takeWhile_cons_of_neg (by simpa using h), List.takeWhile_cons_of_neg (by simpa using h)]
theorem leavesF_set (KS : List Int) (e : Int) (u' : Usr) : ∀ (us : List Usr) (i : Nat) (u : Usr), us[i]? = some u → lfOf KS e u' = lfOf KS e u → leavesF KS e (us.set i u') = leavesF KS e us
  | [], i, u, h, _ => by simp at h
  | x :: r, 0, u, h, k => by
    obtain rfl : x = u := by simpa using h
    unfold leavesF
    rw [List.set_cons_zero, List.flatMap_cons, List.flatMap_cons, k]
  | x :: r, i + 1, u, h, k => by
    have := leavesF_set KS e u' r i u (by simpa using h) k
    unfold leavesF at this ⊢
    rw [List.set_cons_succ, List.flatMap_cons, List.flatMap_cons, this]
theorem leavesF_ins (KS : List Int) (e : Int) (x : Usr) (us : List Usr) (i : Nat) (h : lfOf KS e x = []) : leavesF KS e (us.take i ++ [x] ++ us.drop i) = leavesF KS e us := by
  rw [leavesF_append, leavesF_append]
  have : leavesF KS e [x] = [] := by unfold leavesF; rw [List.flatMap_cons, h]; rfl
  rw [this, List.append_nil, ← leavesF_append, List.take_append_drop]

/-- Adding a version: the users stay in form; the leaves of what is sealed stay. -/
theorem add_keeps (KS : List Int) {d : Dir} {c : Cmd} {i : Nat} (hin : UsIn d.e d.us) (lo : 0 ≤ d.e) (ok : AddOk d c) (m : MayK c) (hi : Pos d.us.length (fun t => cmpN (nameAt d.us t) c.u) i) :
    UsIn d.e (addD d c i).us ∧ ∀ ep, ep ≤ d.e → leavesF KS ep (addD d c i).us = leavesF KS ep d.us := by
  unfold addD
  by_cases h0 : addCode d c i = 0
  · rw [if_pos h0]
    show UsIn d.e (addUs d.us (cmdX d c) i c.u) ∧ ∀ ep, ep ≤ d.e → leavesF KS ep (addUs d.us (cmdX d c) i c.u) = leavesF KS ep d.us
    unfold addCode at h0
    split at h0
    · exact absurd h0 (by decide)
    · rename_i h200
      split at h0
      · rename_i hx
        exact absurd h0 hx
      · rename_i hx
        have hnx : nextF (histF d.us i c.u) (cmdX d c) = 0 := by simpa using hx
        obtain ⟨hc, hl⟩ := histF_ok ok i
        have hck := check_snoc hc (ok.may h200) hl hnx
        have hch := hin.ch
        have uok : ∀ nm : ByteArray, 1 ≤ nm.size → nm.size ≤ 32 → UOk d.e ⟨nm, histF d.us i c.u ++ [cmdX d c]⟩ := fun nm a b => ⟨a, b, by simp, hck, by rw [lastF_snoc]; exact Int.le_refl _⟩
        unfold addUs
        by_cases ht : there d.us i c.u
        · rw [if_pos ht]
          have hil := ht.1
          have hg : d.us[i]? = some d.us[i] := List.getElem?_eq_getElem hil
          have hn := nameAt_get hg
          have hv : histF d.us i c.u = d.us[i].vs := by
            unfold histF
            rw [if_pos (show i < d.us.length ∧ cmpN (nameAt d.us i) c.u = 0 from ht), hg]
            rfl
          have ui := (hch.at_ i _ hg).2
          refine ⟨usIn_of (by rw [List.length_set]; exact hin.len) (hch.set (uok _ (by rw [hn]; exact ui.n1) (by rw [hn]; exact ui.n2)) i _ hg hn), fun ep he => leavesF_set KS ep _ _ i _ hg ?_⟩
          unfold lfOf
          dsimp only
          rw [hv, atF_snoc ep (cmdX d c) (by show ep < d.e + 1; omega), hn]
        · rw [if_neg ht]
          rw [if_neg ht] at h0
          have h64 : ¬ d.us.length = 64 := fun h => by rw [if_pos h] at h0; exact absurd h0 (by decide)
          have hv : histF d.us i c.u = [] := by
            unfold histF
            exact if_neg ht
          have hul := hin.len
          have hile := hi.le
          refine ⟨usIn_of (by simp only [List.length_append, List.length_take, List.length_drop, List.length_singleton]; omega) (ChU.ins (uok c.u m.u1 m.u2) i hch hile (sgt_empty _ m.u1) (fun t u h1 h2 => ?_) (fun u h2 => ?_)), fun ep he => leavesF_ins KS ep _ _ i ?_⟩
          · have := hi.lo t h1
            rw [nameAt_get h2] at this
            exact this
          · have hil : i < d.us.length := (List.getElem?_eq_some_iff.1 h2).1
            have h3 := hi.hi i (Nat.le_refl _) hil
            have h4 : cmpN (nameAt d.us i) c.u ≠ 0 := fun h => ht ⟨hil, h⟩
            rw [nameAt_get h2] at h3 h4
            rw [cmpN_swap]
            show - cmpN u.name c.u < 0
            omega
          · unfold lfOf
            rw [hv]
            have : atF ep ([] ++ [cmdX d c]) = [] := by rw [atF_snoc ep (cmdX d c) (by show ep < d.e + 1; omega)]; rfl
            rw [if_pos this]
  · rw [if_neg h0]
    exact ⟨hin, fun _ _ => rfl⟩
theorem addCode_range (d : Dir) (c : Cmd) (i : Nat) : 0 ≤ addCode d c i ∧ addCode d c i ≤ 65535 := by
  have : ∀ vs x, 0 ≤ nextF vs x ∧ nextF vs x ≤ 65535 := fun vs x => by
    unfold nextF
    repeat' split
    all_goals omega
  unfold addCode
  split
  · omega
  · split
    · exact this _ _
    · repeat' split
      all_goals omega
theorem insSs_set (l : List Ses) (j : Nat) (n : Int) (y : Ses) (h : j ≤ l.length) : (insSs l j n).set j y = l.take j ++ [y] ++ l.drop j := by
  unfold insSs
  have hl : (l.take j).length = j := by rw [List.length_take]; omega
  rw [List.append_assoc, List.set_append, if_neg (by omega), hl, Nat.sub_self, List.append_assoc]
  rfl
theorem HsIn.mono {KS : List Int} {e e' : Int} {hs : List Hd} (he : e ≤ e') (h : HsIn KS e hs) : HsIn KS e' hs := ⟨by have := h.len; omega, h.at_⟩
theorem UsIn.mono {e e' : Int} {us : List Usr} (he : e ≤ e') (h : UsIn e us) : UsIn e' us := usIn_of h.len (h.ch.mono he)
theorem SsIn.mono {e e' : Int} {ss : List Ses} (he : e ≤ e') (h : SsIn e ss) : SsIn e' ss := ssIn_of (h.ch.mono he)

/-- The heads are the epochs' roots. -/
def Roots (KS : List Int) (d : Dir) : Prop := ∀ (i : Nat) h, d.hs[i]? = some h → h.root = rootE KS ((i : Int) + 1) d.us
theorem req_keeps {KS : List Int} {d : Dir} {c : Cmd} {i j : Nat} (hin : DirIn KS d) (hr : Roots KS d) (ok : ReqOk d c) (m : MayK c) (hi : Pos d.us.length (fun t => cmpN (nameAt d.us t) c.u) i) (hj : Pos d.ss.length (fun t => Lib.compareInt (cliAt d.ss t) c.c) j) :
    DirIn KS (reqD d c i j) ∧ Roots KS (reqD d c i j) := by
  unfold reqD
  split
  · exact ⟨hin, hr⟩
  · obtain ⟨u1, u2⟩ := add_keeps KS hin.us hin.lo ok.add m hi
    obtain ⟨e1, e2, e3⟩ := addD_e d c i
    have ac := addCode_range d c i
    have hs := hin.ss.ch
    have lo := hin.lo
    have hjl := hj.le
    unfold doneD
    rw [e1, e2]
    refine ⟨⟨hin.lo, hin.hi, u1, hin.hs, ssIn_of ?_⟩, fun k h hk => ?_⟩
    · dsimp only
      unfold ss1
      split
      · rename_i ht
        have hjl' : j < d.ss.length := ht.1
        have hg : d.ss[j]? = some d.ss[j] := List.getElem?_eq_getElem hjl'
        have hx : sesAt d.ss j = d.ss[j] := by unfold sesAt; rw [hg]; rfl
        rw [hx]
        have so := (hs.at_ j _ hg).2
        exact ChS.set (x := ⟨d.ss[j].c, c.s, addCode d c i, d.e⟩) ⟨so.c4, m.s1, m.s2, ac.1, ac.2, lo, Int.le_refl _⟩ j _ hs hg rfl
      · rename_i ht
        rw [insSs_at _ _ _ hjl, insSs_set _ _ _ _ hjl]
        show ChS d.e 0 (d.ss.take j ++ [⟨c.c, c.s, addCode d c i, d.e⟩] ++ d.ss.drop j)
        refine ChS.ins (x := ⟨c.c, c.s, addCode d c i, d.e⟩) ⟨m.c2, m.s1, m.s2, ac.1, ac.2, lo, Int.le_refl _⟩ j hs hjl (by have := m.c1; show (0 : Int) < c.c; omega) (fun t u h1 h2 => ?_) (fun u h2 => ?_)
        · have := hj.lo t h1
          rw [cliAt_get h2, ci_lt] at this
          exact this
        · have hil : j < d.ss.length := (List.getElem?_eq_some_iff.1 h2).1
          have h3 := hj.hi j (Nat.le_refl _) hil
          have h4 : Lib.compareInt (cliAt d.ss j) c.c ≠ 0 := fun h => ht ⟨hil, h⟩
          rw [cliAt_get h2, ci_ge] at h3
          rw [cliAt_get h2, Ne, ci_eq] at h4
          show c.c < u.c
          omega
    · have hk' : d.hs[k]? = some h := hk
      have hkl := (List.getElem?_eq_some_iff.1 hk').1
      have := hin.hs.len
      rw [hr k h hk']
      unfold rootE
      dsimp only
      rw [u2 ((k : Int) + 1) (by omega)]
theorem step_keeps {KS : List Int} {d d' : Dir} {c : Cmd} (hin : DirIn KS d) (hr : Roots KS d) (hp : PathOk c.root) (h : AppR KS d c 0 d') : DirIn KS d' ∧ Roots KS d' := by
  generalize h0 : (0 : Int) = z at h
  cases h with
  | form _ hm => exact absurd h0 (by decide)
  | seal_ _ hm hk hd =>
    split at h0
    · rename_i he
      obtain rfl := hd he
      have := (may_e hm (Or.inl hk)).2
      have lo := hin.lo
      exact ⟨⟨by dsimp only; omega, this, hin.us.mono (by dsimp only; omega), hin.hs.mono (by dsimp only; omega), hin.ss.mono (by dsimp only; omega)⟩, hr⟩
    · exact absurd h0 (by decide)
  | intent _ hm hk hd =>
    obtain rfl := hd h0.symm
    have hc := h0.symm
    unfold intCode at hc
    split at hc
    · exact absurd hc (by decide)
    · rename_i h1
      split at hc
      · exact absurd hc (by decide)
      · rename_i h2
        split at hc
        · exact absurd hc (by decide)
        · rename_i h3
          have h1' : c.e = (d.hs.length : Int) + 1 := by simpa using h1
          have h3' : c.root = rootE KS c.e d.us := by simpa using h3
          have hhi := hin.hi
          have hlen := hin.hs.len
          refine ⟨⟨hin.lo, hin.hi, hin.us, ⟨?_, fun i h hi => ?_⟩, hin.ss⟩, fun i h hi => ?_⟩
          · show ((d.hs ++ [_]).length : Int) ≤ d.e
            rw [List.length_append, List.length_singleton]
            omega
          · change (d.hs ++ [_])[i]? = some h at hi
            show h.e = (i : Int) + 1 ∧ HdOk h ∧ PathOk h.prev ∧ h.prev = prevF KS ((d.hs ++ [_]).take i)
            rcases Nat.lt_trichotomy i d.hs.length with hl | hl | hl
            · rw [List.getElem?_append_left hl] at hi
              rw [List.take_append_of_le_length (by omega)]
              exact hin.hs.at_ i h hi
            · subst hl
              rw [List.getElem?_append_right (Nat.le_refl _), Nat.sub_self] at hi
              obtain rfl : _ = h := by simpa using hi
              rw [List.take_append_of_le_length (Nat.le_refl _), List.take_length]
              exact ⟨h1', ⟨by dsimp only; omega, by dsimp only; omega, hp.len, prevF_len KS _⟩, prevF_ok KS _, rfl⟩
            · rw [List.getElem?_eq_none (by rw [List.length_append, List.length_singleton]; omega)] at hi
              cases hi
          · change (d.hs ++ [_])[i]? = some h at hi
            show h.root = rootE KS ((i : Int) + 1) d.us
            rcases Nat.lt_trichotomy i d.hs.length with hl | hl | hl
            · rw [List.getElem?_append_left hl] at hi
              exact hr i h hi
            · subst hl
              rw [List.getElem?_append_right (Nat.le_refl _), Nat.sub_self] at hi
              obtain rfl : _ = h := by simpa using hi
              rw [← h1']
              exact h3'
            · rw [List.getElem?_eq_none (by rw [List.length_append, List.length_singleton]; omega)] at hi
              cases hi
  | request _ i j hm hk hi hj hd =>
    obtain rfl := hd h0.symm
    exact req_keeps hin hr (reqOk_of hin hp hm hk) (may_k hm hk) hi hj

/-- What commands make, one behind the other. -/
inductive Made (KS : List Int) (d0 : Dir) : List Cmd → Dir → Prop
  | nil : Made KS d0 [] d0
  | did {l : List Cmd} {d d' : Dir} (c : Cmd) : Made KS d0 l d → AppR KS d c 0 d' → Made KS d0 (l ++ [c]) d'
  | not {l : List Cmd} {d d' : Dir} (c : Cmd) (code : Int) : Made KS d0 l d → code ≠ 0 → AppR KS d c code d' → Made KS d0 (l ++ [c]) d
def dir0 : Dir := ⟨0, [], [], []⟩
theorem dir0_in (KS : List Int) : DirIn KS dir0 := ⟨by decide, by decide, ⟨by decide, fun i u h => by simp [dir0] at h⟩, ⟨by decide, fun i u h => by simp [dir0] at h⟩, ⟨by decide, fun i u h => by simp [dir0] at h⟩⟩
theorem made_in {KS : List Int} {l : List Cmd} {d : Dir} (h : Made KS dir0 l d) (hl : ∀ c ∈ l, PathOk c.root) : DirIn KS d ∧ Roots KS d := by
  induction h with
  | nil => exact ⟨dir0_in KS, fun i h hi => by simp [dir0] at hi⟩
  | did c h1 h2 ih =>
    obtain ⟨a, b⟩ := ih fun c hc => hl c (List.mem_append_left _ hc)
    exact step_keeps a b (hl c (List.mem_append_right _ (List.mem_singleton.2 rfl))) h2
  | not c code h1 h2 h3 ih => exact ih fun c hc => hl c (List.mem_append_left _ hc)
end Go.Proofs.YtadkeohohehmcaaGreatDoor.Top
end
