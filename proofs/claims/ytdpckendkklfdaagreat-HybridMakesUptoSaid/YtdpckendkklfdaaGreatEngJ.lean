/- The engine, part 10: rows written full with marks and lengthened. -/
import Derived.Test.YtdpckendkklfdaaGreatEngI
set_option linter.unusedVariables false
set_option linter.unusedSimpArgs false
set_option linter.unusedSectionVars false
namespace Go.Proofs.Eng
open Go.RowKit
structure Row where
  A : Option Addr
  n : Nat
  c : Nat
def dRow : Row := ⟨none, 0, 0⟩
def rowV (r : Row) : Value := .slice r.A r.n r.c
def reps (k : Nat) (mk : List Value) : List Value := (List.replicate k mk).flatten
theorem reps_succ (k : Nat) (mk : List Value) : reps (k + 1) mk = reps k mk ++ mk := by
  simp only [reps, List.replicate_succ', List.flatten_append, List.flatten_singleton]
theorem reps_zero (mk : List Value) : reps 0 mk = [] := rfl
theorem reps_len (k : Nat) (mk : List Value) : (reps k mk).length = k * mk.length := by simp [reps]
theorem reps_flat (k : Nat) (mk : List Value) : reps k mk = (List.range k).flatMap (fun _ => mk) := by
  induction k with
  | zero => rfl
  | succ k ih => rw [reps_succ, ih, List.range_succ, List.flatMap_append]; simp
theorem reps_get {k m j : Nat} {mk : List Value} (h : k < m) (hj : j < mk.length) : (reps m mk)[k * mk.length + j]? = mk[j]? := by
  rw [reps_flat]
  exact get_flat (enc := fun _ : Nat => mk) (fun _ => rfl) 0 (by simpa using h) hj
theorem reps_get1 {k m : Nat} {v : Value} (h : k < m) : (reps m [v])[k * 1]? = some v := reps_get (j := 0) (mk := [v]) h (by simp)
/-- a row, whatever it holds -/
def rowAny (t : TypeId) (s : Nat) (r : Row) : Ch := fun h => ∃ xs : List Value, xs.length = r.n * s ∧ own r.A r.n r.c t s xs h
/-- a row that holds nothing but marks -/
def full (t : TypeId) (s : Nat) (r : Row) (mk : List Value) : Ch := own r.A r.n r.c t s (reps r.n mk)
def rdc (A : Option Addr) (xs : List Value) : Ch := fun h => RdL A xs h
/-- a row that was lengthened to m elements, and what can be read where it began -/
def lr (t : TypeId) (s : Nat) (A : Option Addr) (n : Nat) (A' : Option Addr) (m c' : Nat) (mk : List Value) : Ch := fun h =>
  (A' = A ∧ own A' m c' t s (reps m mk) h) ∨ cat [own A' m c' t s (reps m mk), rdc A (reps n mk)] h
theorem RdL.pre {A : Option Addr} {n m : Nat} {mk : List Value} {h : Hp} (hn : n ≤ m) (r : RdL A (reps m mk) h) : RdL A (reps n mk) h := fun k v e => by
  refine r k v ?_
  obtain ⟨d, rfl⟩ : ∃ d, m = n + d := ⟨m - n, by omega⟩
  have : reps (n + d) mk = reps n mk ++ reps d mk := by
    clear hn r
    induction d with
    | zero => simp [reps_zero]
    | succ d ih => rw [← Nat.add_assoc, reps_succ, ih, reps_succ, List.append_assoc]
  rw [this, List.getElem?_append_left (List.getElem?_eq_some_iff.1 e).1]
  exact e
section
variable {t : TypeId} {s n m c' : Nat} {A A' : Option Addr} {mk : List Value} {L : List Ch}
theorem lr_start {c : Nat} {h : Hp} (o : own A n c t s (reps n mk) h) : lr t s A n A n c mk h := .inl ⟨rfl, o⟩
theorem lr_long {h : Hp} (o : lr t s A n A' m c' mk h) : RdL A' (reps m mk) h := by
  rcases o with ⟨_, o⟩ | ⟨h1, h2, x, y, z, o, _⟩
  · exact own_rd o
  · exact (own_rd o).mono x
theorem lr_short {h : Hp} (hn : n ≤ m) (o : lr t s A n A' m c' mk h) : RdL A (reps n mk) h := by
  rcases o with ⟨e, o⟩ | ⟨h1, h2, x, y, z, _, g1, g2, x', y', z', o, _⟩
  · rw [← e]; exact (own_rd o).pre hn
  · exact RdL.mono (RdL.mono o x') y
theorem lr_app1 {q : Option Addr × Nat} {h : Hp} (hn : n ≤ m) (e : A' = A) (o : Sats (left A' q.1 (reps m mk) :: own q.1 (m + 1) q.2 t s (reps m mk ++ mk) :: L) h) : Sats (lr t s A n q.1 (m + 1) q.2 mk :: L) h := by
  subst e
  obtain ⟨h1, h2, x, y, z, o1, g1, g2, x', y', z', o2, o3⟩ := o
  rw [← reps_succ] at o2
  rcases o1 with e | o1
  · exact ⟨g1, g2, x'.trans y, y'.trans y, z', .inl ⟨e, o2⟩, o3⟩
  · refine Sats.cat_shut' (A := [own q.1 (m + 1) q.2 t s (reps (m + 1) mk), rdc A' (reps n mk)]) (fun h k => .inr k) (Sats.swap ⟨h1, h2, x, y, z, o1.pre hn, g1, g2, x', y', z', o2, o3⟩)
theorem lr_app2 {q : Option Addr × Nat} {h : Hp} (o : Sats (own q.1 (m + 1) q.2 t s (reps m mk ++ mk) :: rdc A (reps n mk) :: L) h) : Sats (lr t s A n q.1 (m + 1) q.2 mk :: L) h := by
  rw [← reps_succ] at o
  exact Sats.cat_shut' (A := [_, _]) (fun h k => .inr k) o
end
theorem Pk.lr {E : World} {N : Nat} {M : List (Nat × Value)} {L : List Ch} {X : Act → World → Prop} {t : TypeId} {s n m c' : Nat} {A A' : Option Addr} {mk : List Value}
    (k1 : A' = A → Pk E N M (own A' m c' t s (reps m mk) :: L) X) (k2 : Pk E N M (own A' m c' t s (reps m mk) :: rdc A (reps n mk) :: L) X) : Pk E N M (Eng.lr t s A n A' m c' mk :: L) X := fun a w f st => by
  obtain ⟨h1, h2, x, y, z, p, q⟩ := st.heap
  rcases p with ⟨e, p⟩ | p
  · exact k1 e a w f ⟨st.os, st.tape, st.output, h1, h2, x, y, z, p, q⟩
  · exact k2 a w f ⟨st.os, st.tape, st.output, Sats.cat_open (A := [_, _]) ⟨h1, h2, x, y, z, p, q⟩⟩
theorem Pk.rowAny {E : World} {N : Nat} {M : List (Nat × Value)} {L : List Ch} {X : Act → World → Prop} {t : TypeId} {s : Nat} {r : Row}
    (k : ∀ xs : List Value, xs.length = r.n * s → Pk E N M (own r.A r.n r.c t s xs :: L) X) : Pk E N M (Eng.rowAny t s r :: L) X := fun a w f st => by
  obtain ⟨h1, h2, x, y, z, ⟨xs, e, p⟩, q⟩ := st.heap
  exact k xs e a w f ⟨st.os, st.tape, st.output, h1, h2, x, y, z, p, q⟩
/-- one mark more -/
theorem splice_reps {k s : Nat} {mk ys : List Value} (hs : mk.length = s) (h : (k + 1) * s ≤ ys.length) : splice (reps k mk ++ ys.drop (k * s)) (k * s) mk = reps (k + 1) mk ++ ys.drop ((k + 1) * s) := by
  have hl : (reps k mk).length = k * s := by rw [reps_len, hs]
  have e : k * s + s = (k + 1) * s := by rw [Nat.add_mul, Nat.one_mul]
  rw [splice, List.take_append_of_le_length (by omega), List.take_of_length_le (by omega), reps_succ, hs, List.drop_append, List.drop_eq_nil_of_le (by omega), hl, List.nil_append, List.drop_drop]
  congr 2
  omega
/-! ### pieces by number -/
theorem range_erase_congr {n i : Nat} {g g' : Nat → Ch} (hg : ∀ j, j < n → j ≠ i → g j = g' j) : ((List.range n).eraseIdx i).map g = ((List.range n).eraseIdx i).map g' := by
  refine List.map_congr_left fun j hj => ?_
  obtain ⟨k, hk⟩ := List.mem_iff_getElem?.1 hj
  rw [List.getElem?_eraseIdx] at hk
  split at hk
  · rename_i hlt
    obtain ⟨h1, h2⟩ := List.getElem?_eq_some_iff.1 hk
    simp at h1 h2
    exact hg j (by omega) (by omega)
  · obtain ⟨h1, h2⟩ := List.getElem?_eq_some_iff.1 hk
    simp at h1 h2
    exact hg j (by omega) (by omega)
theorem Sats.num_pull {n i : Nat} {g g' : Nat → Ch} {L : List Ch} {h : Hp} (hi : i < n) (hg : ∀ j, j < n → j ≠ i → g j = g' j) (s : Sats (cat ((List.range n).map g) :: L) h) : Sats (g i :: cat (((List.range n).eraseIdx i).map g') :: L) h := by
  rw [← range_erase_congr hg]
  exact Sats.cat_pull (f := g) i (x := i) (by simp [hi]) s
theorem Sats.num_push {n i : Nat} {g' : Nat → Ch} {L : List Ch} {h : Hp} (hi : i < n) (s : Sats (g' i :: cat (((List.range n).eraseIdx i).map g') :: L) h) : Sats (cat ((List.range n).map g') :: L) h := by
  have := Sats.cat_push (f := g') i (x := i) (y := i) (by simp [hi]) s
  have e : (List.range n).set i i = List.range n := by
    apply List.ext_getElem?
    intro k
    rw [List.getElem?_set]
    by_cases hk : i = k
    · subst hk; simp [hi]
    · simp [hk]
  rw [e] at this
  exact this
theorem num_congr {n : Nat} {g g' : Nat → Ch} (hg : ∀ j, j < n → g j = g' j) : Eng.cat ((List.range n).map g) = Eng.cat ((List.range n).map g') := by
  rw [List.map_congr_left fun j hj => hg j (by simpa using hj)]
theorem num_list {α : Type} {f : α → Ch} (l : List α) (d : α) : l.map f = (List.range l.length).map fun j => f (l.getD j d) := by
  apply List.ext_getElem?
  intro k
  by_cases h : k < l.length
  · simp [h]
  · simp [Nat.le_of_not_lt h, h]
theorem Ent.num {n j : Nat} {g : Nat → Ch} {L : List Ch} {F : Hp → Prop} (i : Nat) (e : L[i]? = some (Eng.cat ((List.range n).map g))) (hj : j < n) (k : ∀ h, g j h → F h) (m : ∀ h h', Le h h' → F h → F h') : Ent L F :=
  Ent.cat (f := g) i e (j := j) (x := j) (by simp [hj]) k m
end Go.Proofs.Eng
