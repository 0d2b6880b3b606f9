/- The engine, part 5: words for contracts, lists of cells, the order of texts. -/
import Derived.Test.YtdpckendkklfdaaGreatEngD
import Derived.Sort.Walk0
set_option linter.unusedVariables false
set_option linter.unusedSimpArgs false
namespace Go.Proofs.Eng
open Go.RowKit

/-- a call that hands back v, memory then holding L -/
def Gives (E : World) (v : Value) (L : List Ch) : Ending → World → Prop := fun e w' => e = .returned v ∧ Sat E w' L
/-- .. for some x of which p holds -/
def GivesX (E : World) {α : Type} (V : α → Value) (M : α → List Ch) (p : α → Prop) : Ending → World → Prop := fun e w' => ∃ x, p x ∧ e = .returned (V x) ∧ Sat E w' (M x)
section calls
variable {P : Program} {m : List (Nat × Value)} {L : List Ch} {o : Oper}
theorem eff_callx {g : FuncId} {xs : Array Operand} {ts : Array TypeId} {vs : List Value} {α : Type} {V : α → Value} {M : α → List Ch} {p : α → Prop} (ho : o.op = .call { callee := .value (.func g), args := xs, argTypes := ts }) (hg : Callable P g)
    (hxs : evs m xs.toList = some vs) (hc : ∀ E w, Sat E w L → Calls P g vs.toArray w (GivesX E V M p)) : Eff P m L o V M p := eff_call ho hg hxs hc
theorem eff_call1 {g : FuncId} {xs : Array Operand} {ts : Array TypeId} {vs : List Value} {v : Value} {M : List Ch} (ho : o.op = .call { callee := .value (.func g), args := xs, argTypes := ts }) (hg : Callable P g)
    (hxs : evs m xs.toList = some vs) (hc : ∀ E w, Sat E w L → Calls P g vs.toArray w (Gives E v M)) : Eff P m L o (fun _ : Unit => v) (fun _ => M) (fun _ => True) :=
  eff_call ho hg hxs fun E w s => (hc E w s).mono fun e w' ⟨h1, h2⟩ => ⟨(), trivial, h1, h2⟩
theorem eff_callv1 {y : Operand} {g : FuncId} {cap : Array Value} {xs : Array Operand} {ts : Array TypeId} {vs : List Value} {v : Value} {M : List Ch} (ho : o.op = .call { callee := .value y, args := xs, argTypes := ts }) (hy : ev m y = some (.func (.func g) #[] cap)) (hg : Callable P g)
    (hxs : evs m xs.toList = some vs) (hc : ∀ E w, Sat E w L → Calls P g (vs.toArray ++ cap) w (Gives E v M)) : Eff P m L o (fun _ : Unit => v) (fun _ => M) (fun _ => True) :=
  eff_callv ho hy hg hxs fun E w s => (hc E w s).mono fun e w' ⟨h1, h2⟩ => ⟨(), trivial, h1, h2⟩
end calls
theorem gives1 {E w : World} {v : Value} {L M : List Ch} (s : Sat E w L) (f : ∀ h, Sats L h → Sats M h) : Gives E v M (.returned v) w := ⟨rfl, s.to f⟩

/-! ### Lists of cells -/
theorem get_map {α : Type} {l : List α} {f : α → Value} {k : Nat} (d : α) (h : k < l.length) : (l.map f)[k * 1]? = some (f (l.getD k d)) := by
  simp [h]
theorem get_flat {α : Type} {enc : α → List Value} {s : Nat} (hs : ∀ x, (enc x).length = s) : ∀ {l : List α} {k j : Nat} (d : α), k < l.length → j < s → (l.flatMap enc)[k * s + j]? = (enc (l.getD k d))[j]?
  | [], _, _, _, h, _ => by simp at h
  | x :: l, 0, j, d, _, hj => by
    simp only [List.flatMap_cons, Nat.zero_mul, Nat.zero_add, List.getD_cons_zero]
    rw [List.getElem?_append_left (by rw [hs]; exact hj)]
  | x :: l, k + 1, j, d, h, hj => by
    simp only [List.flatMap_cons, List.getD_cons_succ]
    rw [List.getElem?_append_right (by rw [hs, Nat.add_mul]; omega), hs]
    have := get_flat hs (l := l) (k := k) (j := j) d (by simpa using h) hj
    rw [← this]
    congr 1
    rw [Nat.add_mul]; omega
theorem flat_length {α : Type} {enc : α → List Value} {s : Nat} (hs : ∀ x, (enc x).length = s) (l : List α) : (l.flatMap enc).length = l.length * s := by
  induction l with
  | nil => simp
  | cons x l ih => simp only [List.flatMap_cons, List.length_append, hs, ih, List.length_cons, Nat.add_mul]; omega

theorem flat_rds {α : Type} {enc : α → List Value} {s : Nat} (hs : ∀ x, (enc x).length = s) {l : List α} {k : Nat} (d : α) (h : k < l.length) : ∀ j v, (enc (l.getD k d))[j]? = some v → (l.flatMap enc)[k * s + j]? = some v := fun j v e => by
  have hj : j < s := by
    have := (List.getElem?_eq_some_iff.1 e).1
    rwa [hs] at this
  rw [get_flat hs d h hj]; exact e

/-! ### The order of texts -/
theorem slt_iff (a b : ByteArray) : slt a b = true ↔ a.data.toList < b.data.toList := by
  unfold slt
  rw [bytesLess_eq]
  simp
theorem slt_irrefl (a : ByteArray) : slt a a = false := by
  cases h : slt a a with
  | false => rfl
  | true => exact absurd ((slt_iff a a).1 h) (List.lt_irrefl _)
theorem slt_trans {a b c : ByteArray} (h : slt a b = true) (k : slt b c = true) : slt a c = true :=
  (slt_iff a c).2 (List.lt_trans ((slt_iff a b).1 h) ((slt_iff b c).1 k))
theorem slt_total (a b : ByteArray) : slt a b = true ∨ a = b ∨ slt b a = true := by
  rcases Classical.em (a.data.toList < b.data.toList) with h | h
  · exact .inl ((slt_iff a b).2 h)
  · rcases Classical.em (b.data.toList < a.data.toList) with k | k
    · exact .inr (.inr ((slt_iff b a).2 k))
    · right; left
      have := List.le_antisymm (List.not_lt.1 k) (List.not_lt.1 h)
      cases a; cases b
      simpa using Array.ext' this
theorem slt_asymm {a b : ByteArray} (h : slt a b = true) : slt b a = false := by
  cases k : slt b a with
  | false => rfl
  | true => have := slt_trans h k; rw [slt_irrefl] at this; cases this
/-- not at most: above -/
theorem not_leq (a b : ByteArray) : (slt a b || decide (a = b)) = false ↔ slt b a = true := by
  constructor
  · intro h
    simp only [Bool.or_eq_false_iff, decide_eq_false_iff_not] at h
    rcases slt_total a b with k | k | k
    · rw [h.1] at k; cases k
    · exact absurd k h.2
    · exact k
  · intro h
    simp only [Bool.or_eq_false_iff, decide_eq_false_iff_not]
    refine ⟨slt_asymm h, fun e => ?_⟩
    subst e
    rw [slt_irrefl] at h; cases h
end Go.Proofs.Eng
