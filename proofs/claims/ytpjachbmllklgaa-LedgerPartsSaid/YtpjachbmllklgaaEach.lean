/- Entries: where the first one beyond a number is; each one copied. -/
import Derived.Test.YtpjachbmllklgaaCop
namespace Go.Proofs.Ytpjachbmllklgaa.Rng
open Go.RowKit Go.Proofs.YtpjachbmllklgaaW.PrintWords Go.Proofs.Ytpjachbmllklgaa.Kinds Go.Proofs.Ytpjachbmllklgaa.PCou
set_option linter.unusedVariables false
set_option linter.unusedSimpArgs false
attribute [local go_sem] Oper.semAt_some

/-- Entries that are read. -/
structure LX (W : World) (A : Option Addr) (b off : Nat) (css : List (List Value)) (xs : List Ent) : Prop where
  len : css.length = xs.length
  A : 0 < css.length → A = some ⟨b, off, none⟩
  row : Row W b off css
  K : ∀ j, j < css.length → kEnt.K W xs[j]! css[j]!
  cou : ∀ x ∈ xs, x.2.2.2.2.1.length < 17592186044416 ∧ x.2.2.2.2.2.length < 17592186044416
  wi : ∀ x ∈ xs, -9223372036854775808 ≤ x.1 ∧ x.1 ≤ 9223372036854775807
  b : b < W.heap.size ∨ css = []
  small : css.length ≤ 1000000
theorem LX.below {W W' : World} {A : Option Addr} {b off : Nat} {css : List (List Value)} {xs : List Ent} (h : LX W A b off css xs) (hb : Below W.heap.size W W') : LX W' A b off css xs := by
  refine ⟨h.len, h.A, ?_, fun j hj => kEnt.K_below hb (h.K j hj), h.cou, h.wi, ?_, h.small⟩
  · rcases h.b with g | g
    · exact h.row.same (hb.block b g)
    · subst g; intro j hj; simp at hj
  · rcases h.b with g | g
    · exact .inl (Nat.lt_of_lt_of_le g hb.size)
    · exact .inr g
theorem LX.isE {W : World} {A : Option Addr} {b off : Nat} {css : List (List Value)} {xs : List Ent} (h : LX W A b off css xs) (j : Nat) (hj : j < css.length) : IsE css[j]! ∧ itOf css[j]! = ((xs[j]!).1, (xs[j]!).2.1) ∧ IsC css[j]! := ent_cells (h.K j hj)
theorem LX.mem {W : World} {A : Option Addr} {b off : Nat} {css : List (List Value)} {xs : List Ent} (h : LX W A b off css xs) (j : Nat) (hj : j < css.length) : xs[j]! ∈ xs := by
  have := h.len
  rw [getElem!_pos xs j (by omega)]
  exact List.getElem_mem _
def itX (xs : List Ent) : List (Int × Int) := xs.map (fun x => (x.1, x.2.1))
theorem LX.its_eq {W : World} {A : Option Addr} {b off : Nat} {css : List (List Value)} {xs : List Ent} (h : LX W A b off css xs) : its css = itX xs := by
  unfold its itX
  apply List.ext_getElem?
  intro j
  rw [List.getElem?_map, List.getElem?_map]
  have hl := h.len
  by_cases hj : j < css.length
  · have h1 := (h.isE j hj).2.1
    rw [getElem!_pos css j hj, getElem!_pos xs j (by omega)] at h1
    rw [List.getElem?_eq_getElem hj, List.getElem?_eq_getElem (by omega)]
    simp [h1]
  · rw [List.getElem?_eq_none (by omega), List.getElem?_eq_none (by omega)]
    rfl
theorem LX.lg {W : World} {s : Sv} {b off : Nat} {css : List (List Value)} {xs : List Ent} (h : LX W s.A b off css xs) (hn : s.n = css.length) : Lg W s b off css :=
  ⟨hn, h.A, h.row, fun j hj => (h.isE j hj).1, fun j hj => by rw [(h.isE j hj).2.1]; exact h.wi _ (h.mem j hj), h.small, h.b⟩
theorem LX.drop {W : World} {A : Option Addr} {b off : Nat} {css : List (List Value)} {xs : List Ent} (h : LX W A b off css xs) (k : Nat) : LX W (some ⟨b, off + k * 43, none⟩) b (off + k * 43) (css.drop k) (xs.drop k) := by
  have hl := h.len
  have e1 : ∀ j, j < (css.drop k).length → (css.drop k)[j]! = css[k + j]! := fun j hj => by
    rw [List.length_drop] at hj
    rw [getElem!_pos _ j (by rw [List.length_drop]; exact hj), getElem!_pos _ (k + j) (by omega), List.getElem_drop]
  have e2 : ∀ j, j < (css.drop k).length → (xs.drop k)[j]! = xs[k + j]! := fun j hj => by
    rw [List.length_drop] at hj
    rw [getElem!_pos _ j (by rw [List.length_drop]; omega), getElem!_pos _ (k + j) (by omega), List.getElem_drop]
  refine ⟨by rw [List.length_drop, List.length_drop, hl], fun _ => rfl, fun j hj => ?_, fun j hj => ?_, fun x hx => h.cou x (List.mem_of_mem_drop hx), fun x hx => h.wi x (List.mem_of_mem_drop hx), ?_, by rw [List.length_drop]; have := h.small; omega⟩
  · rw [e1 j hj]
    rw [List.length_drop] at hj
    have := h.row (k + j) (by omega)
    rw [show off + (k + j) * 43 = off + k * 43 + j * 43 by omega] at this
    exact this
  · rw [e1 j hj, e2 j hj]
    rw [List.length_drop] at hj
    exact h.K (k + j) (by omega)
  · rcases h.b with g | g
    · exact .inl g
    · exact .inr (by rw [g]; simp)
theorem LX.take {W : World} {A : Option Addr} {b off : Nat} {css : List (List Value)} {xs : List Ent} (h : LX W A b off css xs) (k : Nat) : LX W A b off (css.take k) (xs.take k) := by
  have hl := h.len
  have e1 : ∀ j, j < (css.take k).length → (css.take k)[j]! = css[j]! := fun j hj => by
    rw [List.length_take] at hj
    rw [getElem!_pos _ j (by rw [List.length_take]; exact hj), getElem!_pos _ j (by omega), List.getElem_take]
  have e2 : ∀ j, j < (css.take k).length → (xs.take k)[j]! = xs[j]! := fun j hj => by
    rw [List.length_take] at hj
    rw [getElem!_pos _ j (by rw [List.length_take]; omega), getElem!_pos _ j (by omega), List.getElem_take]
  refine ⟨by rw [List.length_take, List.length_take, hl], fun g => h.A (by rw [List.length_take] at g; omega), fun j hj => ?_, fun j hj => ?_, fun x hx => h.cou x (List.mem_of_mem_take hx), fun x hx => h.wi x (List.mem_of_mem_take hx), ?_, by rw [List.length_take]; have := h.small; omega⟩
  · rw [e1 j hj]
    rw [List.length_take] at hj
    exact h.row j (by omega)
  · rw [e1 j hj, e2 j hj]
    rw [List.length_take] at hj
    exact h.K j (by omega)
  · rcases h.b with g | g
    · exact .inl g
    · exact .inr (by rw [g]; simp)
theorem all_one {cs : List Value} (h : ∀ u ∈ cs, u.oneCell' = true) : cs.toArray.all (·.oneCell') = true := by
  rw [Array.all_eq_true_iff_forall_mem]
  intro u hu
  exact h u (by simpa using hu)

set_option maxHeartbeats 400000 in
set_option maxRecDepth 100000 in
theorem beyond_c (cs : List Value) (hE : IsE cs) (g : Nat) (index : Int) (w : World) (hg : w.cell? ⟨g, 0, none⟩ = some (.int .i64 index)) :
    Calls Try.prog 51 #[.agg cs.toArray, .pointer (some ⟨g, 0, none⟩)] w fun e w' => e = .returned (.bool (decide ((itOf cs).1 > index))) ∧ Below w.heap.size w w' := by
  have hcell : (w.alloc (.cells cs.toArray 59)).cell? ⟨w.heap.size, 0, none⟩ = some (.int .i64 (itOf cs).1) := by
    simp only [World.cell?]
    rw [blk_new]
    simpa using hE.i0
  have hlt : g < w.heap.size := by
    have := block_lt_of_cell hg
    exact this
  have hg2 : (w.alloc (.cells cs.toArray 59)).cell? ⟨g, 0, none⟩ = some (.int .i64 index) := by
    rw [← hg]
    simp only [World.cell?]
    rw [Below.heap_alloc _ _ _ hlt]
  go_enter Try.func51, Try.ntmps51
  go_wp2
  go_ret
  exact ⟨rfl, (Below.refl _ w).alloc (Nat.le_refl _) _⟩
/-- Where the first entry beyond a number is; -1: none. -/
def beyV (xs : List Ent) (index : Int) : Int := match xs.findIdx? (fun x => decide (x.1 > index)) with
  | some i => i
  | none => -1

theorem beyV_hit (xs : List Ent) (index : Int) (k : Nat) (hk : k < xs.length) (h : xs[k]!.1 > index) (hj : ∀ j, j < k → (xs[j]!).1 ≤ index) : beyV xs index = k := by
  have : xs.findIdx? (fun x => decide (x.1 > index)) = some k := by
    rw [List.findIdx?_eq_some_iff_getElem]
    refine ⟨hk, by rw [getElem!_pos xs k hk] at h; exact decide_eq_true h, fun j hjk => ?_⟩
    have := hj j hjk
    rw [getElem!_pos xs j (by omega)] at this
    simp only [decide_eq_true_eq]
    omega
  unfold beyV
  rw [this]
theorem beyV_none (xs : List Ent) (index : Int) (hj : ∀ j, j < xs.length → (xs[j]!).1 ≤ index) : beyV xs index = -1 := by
  have : xs.findIdx? (fun x => decide (x.1 > index)) = none := by
    rw [List.findIdx?_eq_none_iff]
    intro x hx
    obtain ⟨j, hj1, rfl⟩ := List.getElem_of_mem hx
    have := hj j hj1
    rw [getElem!_pos xs j hj1] at this
    simp only [decide_eq_false_iff_not]
    omega
  unfold beyV
  rw [this]

set_option maxHeartbeats 400000 in
set_option maxRecDepth 100000 in
theorem index_c (A : Option Addr) (n c b off : Nat) (css : List (List Value)) (xs : List Ent) (w : World) (h : LX w A b off css xs) (hn : n = css.length) (g : Nat) (index : Int) (hg : w.cell? ⟨g, 0, none⟩ = some (.int .i64 index)) :
    Calls Try.prog 50 #[.slice A n c, .func (.func 51) #[] #[.pointer (some ⟨g, 0, none⟩)]] w fun e w' => e = .returned (.int .i64 (beyV xs index)) ∧ Below w.heap.size w w' := by
  have e51 : ∀ args w, (callFunc 51 args).run Try.prog w = .ok (.enter 51 args) w := enters_of Try.func51 (by kernel_rfl) rfl
  subst hn
  have hgl : g < w.heap.size := block_lt_of_cell hg
  have HG := Aside0.mk hg
  have H := Aside0.mk h
  have hsm := h.small
  clear h hg
  generalize hrv : beyV xs index = rv
  have RV := Aside0.mk hrv
  clear hrv
  go_enter Try.func50, Try.ntmps50
  go_wp2_with fail
  go_loopg [8] css.length (fun gg s8 wr => ∃ kk : Nat, kk ≤ css.length ∧ css.length - kk ≤ gg ∧ s8 = .int .i64 kk ∧ Aside (Below w.heap.size w wr) ∧ Aside (∀ j, j < kk → (xs[j]!).1 ≤ index))
  case atStart => exact ⟨0, by omega, by omega, rfl, Below.refl _ _, fun j hj => absurd hj (Nat.not_lt_zero _)⟩
  case round =>
    obtain ⟨kk, hk, hgg, rfl, B, G⟩ := hrel
    by_cases hlt : kk < css.length
    · have hltz : (kk : Int) < (css.length : Int) := by omega
      obtain rfl := H.out.A (by omega)
      have hL := H.out.below B.out
      have hrg := hL.row kk hlt
      obtain ⟨hE, hit, _⟩ := hL.isE kk hlt
      clear hL
      have hg2 : wr.cell? ⟨g, 0, none⟩ = some (.int .i64 index) := (B.out.cell (p := ⟨g, 0, none⟩) hgl).trans HG.out
      generalize hcs : css[kk]! = cs at hrg hE hit
      have CS := Aside0.mk hcs
      clear hcs
      have hi59 : (Try.prog.info? 59).map (·.size) = some cs.length := by rw [hE.len]; exact size59
      have HB := Aside0.mk (beyond_c cs hE g index wr hg2)
      have hsz := B.out.size
      rw [hit] at HB
      dsimp only at HB
      have IT := Aside0.mk hit
      clear hE hit hg2
      go_wp2_with (first | (refine wpList_load_mid rfl 59 (.tmp 14) rfl b (off + kk * 43) rfl cs _ hrg Try.underlying59 rfl hi59 ?_))
      refine HB.out.mono ?_
      rintro e w2 ⟨rfl, hb2⟩
      have B2 : Below w.heap.size w w2 := B.out.trans (hb2.mono hsz)
      have HXL := Aside0.mk H.out.len
      by_cases hgt : xs[kk]!.1 > index
      · have hd : decide (xs[kk]!.1 > index) = true := decide_eq_true hgt
        rw [hd]
        go_wp2
        go_ret
        refine ⟨?_, B2⟩
        rw [← RV.out, beyV_hit xs index kk (by rw [← HXL.out]; exact hlt) hgt G.out]
        rfl
      · have hd : decide (xs[kk]!.1 > index) = false := decide_eq_false hgt
        rw [hd]
        have HGT : Aside0 (xs[kk]!.1 ≤ index) := ⟨by omega⟩
        clear hgt hd
        go_wp2
        go_roundg (css.length - (kk + 1))
        case measure => omega
        case rel =>
          refine ⟨kk + 1, by omega, by omega, by go_num, B2, (show Aside _ from fun j hj => ?_)⟩
          by_cases e : j = kk
          · subst e; exact HGT.out
          · exact G.out j (by omega)
    · have hltz : ¬ (kk : Int) < (css.length : Int) := by omega
      have hxl := H.out.len
      have : kk = css.length := by omega
      subst this
      go_wp2
      go_ret
      refine ⟨?_, B.out⟩
      rw [← RV.out, beyV_none xs index (fun j hj => G.out j (by omega))]
      rfl

def z59 : Value := .agg #[.int .i64 0, .int .i64 0, .int .i64 0, .int .i64 0, .int .i64 0, .int .i64 0, .string ⟨#[]⟩, .string ⟨#[]⟩, .int .i64 0, .int .u8 0, .int .u8 0, .int .u8 0, .int .u8 0, .int .u8 0, .int .u8 0, .int .u8 0, .int .u8 0, .int .u8 0, .int .u8 0, .int .u8 0, .int .u8 0, .int .u8 0, .int .u8 0, .int .u8 0, .int .u8 0, .int .u8 0, .int .u8 0, .int .u8 0, .int .u8 0, .int .u8 0, .int .u8 0, .int .u8 0, .int .u8 0, .int .u8 0, .int .u8 0, .int .u8 0, .int .u8 0, .int .u8 0, .int .u8 0, .int .u8 0, .int .u8 0, .slice none 0 0, .slice none 0 0]
theorem info59 : (Try.prog.info? 59).map (fun i => (i.zero, i.size, i.bytes)) = some (some z59, 43, 168) := by kernel_rfl
theorem z59_size : z59.cells.size = 43 := rfl
theorem kEnt_sz : kEnt.sz = 43 := rfl
theorem fold_zip_at : ∀ (cs : List Value) (z : Array Value) (k : Nat), z.size = k + cs.length → (List.foldl (fun (a : Array Value) (x : Value × Nat) => a.setIfInBounds x.2 x.1) z (cs.zipIdx k)).toList = z.toList.take k ++ cs
  | [], z, k, h => by
    simp only [List.zipIdx_nil, List.foldl_nil, List.append_nil]
    rw [List.take_of_length_le (by simp at h ⊢; omega)]
  | c :: cs, z, k, h => by
    rw [List.zipIdx_cons, List.foldl_cons, fold_zip_at cs _ (k + 1) (by simp at h ⊢; omega)]
    simp only [List.length_cons] at h
    have hk : k < z.toList.length := by simp; omega
    rw [Array.toList_setIfInBounds, List.take_add_one, List.take_set_of_le (Nat.le_refl _)]
    simp [List.getElem?_set, hk, show k < z.size by omega]
@[local go_sem] theorem fold_zip (cs : List Value) (z : Array Value) (h : z.size = cs.length) : List.foldl (fun (a : Array Value) (x : Value × Nat) => a.setIfInBounds x.2 x.1) z cs.zipIdx = cs.toArray := by
  apply Array.toList_inj.1
  rw [fold_zip_at cs z 0 (by omega)]
  simp
set_option maxHeartbeats 400000 in
set_option maxRecDepth 100000 in
theorem each_c (A : Option Addr) (n c b off : Nat) (css : List (List Value)) (xs : List Ent) (w : World) (h : LX w A b off css xs) (hn : n = css.length) :
    Calls Try.prog 52 #[.slice A n c, .func (.func 53) #[] #[]] w fun e w' => ∃ v, e = .returned v ∧ kEnt.R 59 w' w.heap.size (fun _ => True) v xs ∧ Below w.heap.size w w' := by
  have e53 : ∀ args w, (callFunc 53 args).run Try.prog w = .ok (.enter 53 args) w := enters_of Try.func53 (by kernel_rfl) rfl
  subst hn
  have H := Aside0.mk h
  have hsm := h.small
  clear h
  go_enter Try.func52, Try.ntmps52
  go_wp2_with fail
  go_loopg [5, 10] css.length (fun gg s5 s10 wr => ∃ kk : Nat, kk ≤ css.length ∧ css.length - kk ≤ gg ∧ s10 = .int .i64 kk ∧ Aside (Below w.heap.size w wr) ∧ Aside (kEnt.R 59 wr w.heap.size (fun _ => True) s5 (xs.take kk)))
  case atStart => exact ⟨0, by omega, by omega, rfl, Below.refl _ _, Kd.R_nil _ _ _ _ _⟩
  case round =>
    obtain ⟨kk, hk, hgg, rfl, B, G⟩ := hrel
    by_cases hlt : kk < css.length
    · have hltz : (kk : Int) < (css.length : Int) := by omega
      obtain rfl := H.out.A (by omega)
      have hL := H.out.below B.out
      have hrg := hL.row kk hlt
      obtain ⟨hE, hit, _⟩ := hL.isE kk hlt
      have hKk := hL.K kk hlt
      have hcou := hL.cou _ (hL.mem kk hlt)
      clear hL
      generalize hxk : xs[kk]! = xk at hKk hcou hit
      have XK := Aside0.mk hxk
      clear hxk
      generalize hcs : css[kk]! = cs at hrg hE hit hKk
      clear hcs hit
      have hi59 : (Try.prog.info? 59).map (·.size) = some cs.length := by rw [hE.len]; exact size59
      have hi59' : (Try.prog.info? 59).map (·.size) = some cs.toArray.size := by rw [List.size_toArray, hE.len]; exact size59
      have h1c := all_one hE.one
      have hl43 : cs.length = 43 := hE.len
      have hsz := B.out.size
      have hK2 : kEnt.K (wr.alloc (.cells cs.toArray 59)) xk cs := kEnt.K_below ((Below.refl _ wr).alloc (Nat.le_refl _) _) hKk
      have HB := Aside0.mk (copied_c xk cs (wr.alloc (.cells cs.toArray 59)) hK2 hcou.1 hcou.2)
      have hnew := blk_new wr (.cells cs.toArray 59)
      clear hE hKk hK2
      go_wp2_with (first | (refine wpList_load_mid rfl 59 (.tmp 12) rfl b (off + kk * 43) rfl cs _ hrg Try.underlying59 rfl hi59 ?_) | (refine wpList_store_new rfl 59 (.tmp 7) (.tmp 13) rfl cs.toArray _ 59 rfl rfl hi59' ?hold h1c ?_) | (refine wpList_load_row rfl 59 (.tmp 7) rfl wr.heap.size rfl 59 _ (0, 0) _ hnew Try.underlying59 rfl hi59' ?_))
      case hold => simp [hl43]
      refine HB.out.mono ?_
      rintro e w2 ⟨cs', rfl, hM, hb2⟩
      have hszA : (wr.alloc (.cells cs.toArray 59)).heap.size = wr.heap.size + 1 := by simp
      have hbA : Below wr.heap.size wr w2 := ((Below.refl _ wr).alloc (Nat.le_refl _) _).trans (hb2.mono (by omega))
      have B2 : Below w.heap.size w w2 := B.out.trans (hbA.mono hsz)
      have HR : Aside0 (kEnt.R 59 w2 w.heap.size (fun _ => True) u5 (xs.take kk)) := ⟨Kd.R_below G.out hbA⟩
      have hcl : cs'.length = 43 := kEnt.K_len (kEnt.K_of_M hM)
      have hvb : ∀ k, u5.ownBlock = some k → k < wr.heap.size := fun k hk => by
        obtain ⟨inner, ho⟩ := Kd.R_own G.out
        exact own_lt ho k hk
      have HM : Aside0 (kEnt.M w2 w.heap.size (fun k => wr.heap.size ≤ k) xk cs') := ⟨kEnt.M_lower (by omega) (kEnt.M_mono (ok' := fun k => wr.heap.size ≤ k) (fun k hk => by have := hk.2.1; omega) (kEnt.M_bound hM))⟩
      have hxl := H.out.len
      have htk : xs.take (kk + 1) = xs.take kk ++ [xk] := by
        rw [← XK.out, List.take_add_one, List.getElem?_eq_getElem (by omega), getElem!_pos xs kk (by omega)]
        rfl
      have hlen : (xs.take kk).length ≤ 1000000 := by rw [List.length_take]; omega
      have TK := Aside0.mk htk
      clear htk hxl
      have HVB := Aside0.mk hvb
      clear hvb hM
      go_wp2_with (at_builtin; refine Kd.R_append kEnt (w0 := w) w.heap.size rfl (.tmp 14) (.tmp 18) 27 59 z59 168 rfl Try.underlying27 info59 z59_size (by decide) (by omega) u5 (xs.take kk) xk cs' (fun _ => True) (fun k => wr.heap.size ≤ k) rfl rfl HM.out ?okp (fun _ _ => trivial) HR.out B2 B2.size ?aL ?_)
      case okp => exact fun k hk => ⟨trivial, fun e => by have := HVB.out k e.symm; omega⟩
      case aL => omega
      intro v1 w1 ho hb hg hat
      have hb' : Below w.heap.size w w1 := hb
      rw [← TK.out] at ho
      have HO := Aside0.mk ho
      clear ho hg hat hb
      go_wp2
      go_roundg (css.length - (kk + 1))
      case measure => omega
      case rel => exact ⟨kk + 1, by omega, by omega, by go_num, hb', HO.out⟩
    · have hltz : ¬ (kk : Int) < (css.length : Int) := by omega
      have hkk : kk = css.length := by omega
      have HT : Aside0 (xs.take kk = xs) := ⟨by rw [List.take_of_length_le]; rw [hkk, H.out.len]; exact Nat.le_refl _⟩
      clear hkk
      go_wp2
      go_ret
      refine ⟨_, rfl, ?_, B.out⟩
      have := G.out
      rw [HT.out] at this
      exact this
end Go.Proofs.Ytpjachbmllklgaa.Rng
