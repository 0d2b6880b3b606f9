/- The engine, part 13: words that all walks share. -/
import Derived.Test.YtdpckendkklfdaaGreatEngL
set_option linter.unusedVariables false
set_option linter.unusedSimpArgs false
set_option linter.unusedSectionVars false
namespace Go.Proofs.Eng
open Go.RowKit
def emp : ByteArray := ByteArray.empty
/-- a list's first k are in order, none twice -/
def Rise (l : List ByteArray) (k : Nat) : Prop := ∀ j, j + 1 < k → slt (l.getD j emp) (l.getD (j + 1) emp) = true
def riseB : List ByteArray → Bool
  | a :: b :: r => slt a b && riseB (b :: r)
  | _ => true
theorem riseB_iff : ∀ l : List ByteArray, riseB l = true ↔ Rise l l.length
  | [] => by simp [riseB, Rise]
  | [a] => by simp [riseB, Rise]
  | a :: b :: r => by
    simp only [riseB, Bool.and_eq_true, riseB_iff (b :: r)]
    constructor
    · rintro ⟨h1, h2⟩ j hj
      cases j with
      | zero => simpa using h1
      | succ j => simpa using h2 j (by simpa using hj)
    · intro h
      refine ⟨by simpa using h 0 (by simp), fun j hj => ?_⟩
      simpa using h (j + 1) (by simpa using hj)
theorem Rise.lt {l : List ByteArray} (h : Rise l l.length) : ∀ {i j : Nat}, i < j → j < l.length → slt (l.getD i emp) (l.getD j emp) = true := by
  intro i j hij
  induction j with
  | zero => omega
  | succ j ih =>
    intro hj
    by_cases e : i = j
    · subst e; exact h i hj
    · exact slt_trans (ih (by omega) (by omega)) (h j hj)
def memB (l : List ByteArray) (x : ByteArray) : Bool := l.any fun y => decide (y = x)
theorem memB_iff {l : List ByteArray} {x : ByteArray} : memB l x = true ↔ x ∈ l := by
  simp [memB]
theorem memB_not {l : List ByteArray} {x : ByteArray} (h : ¬ x ∈ l) : memB l x = false := by
  cases e : memB l x with
  | false => rfl
  | true => exact absurd (memB_iff.1 e) h
/-- where x belongs in a rising list -/
def PlaceOf (l : List ByteArray) (x : ByteArray) (i : Nat) : Prop := i ≤ l.length ∧ (∀ j, j < i → slt (l.getD j emp) x = true) ∧ (∀ j, i ≤ j → j < l.length → slt (l.getD j emp) x = false)
theorem getD_of_mem {l : List ByteArray} {x : ByteArray} (h : x ∈ l) : ∃ j, j < l.length ∧ l.getD j emp = x := by
  obtain ⟨j, hj, e⟩ := List.getElem_of_mem h
  exact ⟨j, hj, by simp [hj, e]⟩
theorem mem_of_getD {l : List ByteArray} {x : ByteArray} {j : Nat} (hj : j < l.length) (e : l.getD j emp = x) : x ∈ l := by
  rw [← e]; simp [hj]
theorem PlaceOf.found {l : List ByteArray} {x : ByteArray} {i : Nat} (hR : Rise l l.length) (h : PlaceOf l x i) : x ∈ l ↔ i < l.length ∧ l.getD i emp = x := by
  constructor
  · intro hx
    obtain ⟨j, hj, e⟩ := getD_of_mem hx
    have hij : ¬ j < i := fun hji => by
      have := h.2.1 j hji
      rw [e, slt_irrefl] at this; cases this
    by_cases hi : j = i
    · subst hi; exact ⟨hj, e⟩
    · have h1 := h.2.2 i (Nat.le_refl _) (by omega)
      have h2 := hR.lt (show i < j by omega) hj
      rw [e, h1] at h2; cases h2
  · rintro ⟨h1, h2⟩
    exact mem_of_getD h1 h2
theorem getD_mem {α : Type} {l : List α} {k : Nat} (d : α) (h : k < l.length) : l.getD k d ∈ l := by simp [h]
theorem list_eq_of {l1 l2 : List ByteArray} (hl : l1.length = l2.length) (h : ∀ j, j < l1.length → l1.getD j emp = l2.getD j emp) : l1 = l2 := by
  apply List.ext_getElem hl
  intro i h1 h2
  have := h i h1
  simpa [h1, h2] using this
theorem map_getD {α β : Type} (f : α → β) (d : α) {l : List α} {k : Nat} (h : k < l.length) (e : β) : (l.map f).getD k e = f (l.getD k d) := by simp [h]
theorem take_succ_map {α β : Type} (f : α → β) (d : α) {l : List α} {k : Nat} (h : k < l.length) : (l.take (k + 1)).map f = (l.take k).map f ++ [f (l.getD k d)] := by
  rw [List.take_succ_eq_append_getElem h, List.map_append]; simp [h]
def restN (n : Int) (most : Nat) : Nat := ((if n.tmod ((most : Int) + 1) < 0 then n.tmod ((most : Int) + 1) + most + 1 else n.tmod ((most : Int) + 1))).toNat
theorem tmod_bounds (n : Int) (m : Nat) : -((m : Int)) ≤ n.tmod ((m : Int) + 1) ∧ n.tmod ((m : Int) + 1) ≤ m := by
  have h1 := Int.tmod_lt_of_pos n (show (0 : Int) < (m : Int) + 1 by omega)
  have h2 := Int.lt_tmod_of_pos n (show (0 : Int) < (m : Int) + 1 by omega)
  omega
theorem restN_le (n : Int) (m : Nat) : restN n m ≤ m := by
  have := tmod_bounds n m
  unfold restN
  split <;> omega
theorem get_app {xs ex : List Value} {n j i : Nat} {v : Value} (hl : xs.length = n) (h : ex[j]? = some v) (hi : i = n + j) : (xs ++ ex)[i]? = some v := by
  subst hi hl
  rw [List.getElem?_append_right (by omega), show xs.length + j - xs.length = j by omega]
  exact h
theorem int_one {kd : IntKind} (l : List Int) : (l.map (Value.int kd)).all (·.oneCell') = true := by
  rw [List.all_map]; exact List.all_eq_true.2 fun v _ => rfl
theorem txt_one (l : List ByteArray) : (l.map Value.string).all (·.oneCell') = true := by
  rw [List.all_map]; exact List.all_eq_true.2 fun v _ => rfl
/-- the first place where pr says yes; -1: nowhere -/
def idxF {α : Type} (pr : α → Bool) (l : List α) : Int := if l.any pr = true then (l.findIdx pr : Nat) else -1
theorem idxF_at {α : Type} {pr : α → Bool} {l : List α} (d : α) {k : Nat} (hk : k < l.length) (h : pr (l.getD k d) = true) (hI : ∀ j, j < k → pr (l.getD j d) = false) : idxF pr l = (k : Int) := by
  have h1 : l.any pr = true := List.any_eq_true.2 ⟨_, getD_mem d hk, h⟩
  have h2 : l.findIdx pr = k := by
    refine (List.findIdx_eq hk).2 ⟨by simpa [hk] using h, fun j hj => ?_⟩
    have := hI j hj
    simpa [show j < l.length by omega] using this
  rw [idxF, if_pos h1, h2]
theorem idxF_no {α : Type} {pr : α → Bool} {l : List α} (d : α) (hI : ∀ j, j < l.length → pr (l.getD j d) = false) : idxF pr l = -1 := by
  have h1 : ¬ l.any pr = true := fun h => by
    obtain ⟨x, hx, hp⟩ := List.any_eq_true.1 h
    obtain ⟨j, hj, e⟩ := List.mem_iff_getElem.1 hx
    have := hI j hj
    simp [hj, e, hp] at this
  rw [idxF, if_neg h1]
theorem idxF_pos {α : Type} (pr : α → Bool) (l : List α) : decide (0 ≤ idxF pr l) = l.any pr := by
  unfold idxF
  cases h : l.any pr with
  | true => simp
  | false => simp
end Go.Proofs.Eng
