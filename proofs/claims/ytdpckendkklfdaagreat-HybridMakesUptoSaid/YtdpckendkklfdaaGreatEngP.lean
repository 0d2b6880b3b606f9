/- The engine, part 16: rows that are sorted: the arrays of the sort's plain texts beside the rows' lists; the library's contracts of the sort brought to pieces. -/
import Derived.Test.YtdpckendkklfdaaGreatEngO
import Derived.Sort.AssemblyPlain
import Derived.Sort.EncStr
import Derived.Sort.Grow
set_option linter.unusedVariables false
set_option linter.unusedSimpArgs false
set_option linter.unusedSectionVars false
namespace Go.Proofs.Eng
open Go.RowKit Go.Sort
section srt
variable {α : Type} [Inhabited α] {f : α → Value}
theorem get_arr {d : Array α} {k : Nat} (h : k < d.size) : (d.toList.map f)[k * 1]? = some (f d[k]!) := by
  simp [h]
theorem swp_map {d : Array α} {i j : Nat} (hi : i < d.size) (hj : j < d.size) : splice (splice (d.toList.map f) (i * 1) [f d[j]!]) (j * 1) [f d[i]!] = (swp d i j).toList.map f := by
  have e1 := splice_one (xs := d.toList.map f) (k := i) (v := f d[j]!) (by simpa using hi)
  rw [Nat.mul_one, Nat.mul_one, e1, splice_one (by simpa using hj)]
  simp [swp, List.map_set]
theorem swp_sz (d : Array α) (i j : Nat) : (swp d i j).size = d.size := by simp [swp]
variable {lt : α → α → Bool}
theorem insI_go {a j : Nat} {d : Array α} (h : a < j) (hl : lt d[j]! d[j - 1]! = true) : insInner lt a j d = insInner lt a (j - 1) (swp d j (j - 1)) := by
  obtain ⟨k, rfl⟩ : ∃ k, j = k + 1 := ⟨j - 1, by omega⟩
  rw [Nat.add_sub_cancel] at hl ⊢
  rw [insInner, hl]; simp [h]
theorem insI_stop {a j : Nat} {d : Array α} (h : ¬ a < j ∨ lt d[j]! d[j - 1]! = false) : insInner lt a j d = d := by
  cases j with
  | zero => rfl
  | succ k =>
    rw [insInner]
    rcases h with h | h
    · have : ¬ k + 1 > a := h
      simp [this]
    · rw [Nat.add_sub_cancel] at h; simp [h]
theorem insO_go {a b i : Nat} {d : Array α} (h : i < b) : insOuter lt a b i d = insOuter lt a b (i + 1) (insInner lt a i d) := by rw [insOuter, if_pos h]
theorem insO_stop {a b i : Nat} {d : Array α} (h : ¬ i < b) : insOuter lt a b i d = d := by rw [insOuter, if_neg h]
theorem insInner_sz {a : Nat} : ∀ {j : Nat} {d : Array α}, (insInner lt a j d).size = d.size
  | 0, d => rfl
  | j + 1, d => by
    rw [insInner]; split
    · rw [insInner_sz, swp_sz]
    · rfl
/-- a list in order -/
def srtL (lt : α → α → Bool) (l : List α) : List α := l.mergeSort (fun x y => !lt y x)
theorem srtL_len (l : List α) : (srtL lt l).length = l.length := List.length_mergeSort _
theorem srtL_mem {l : List α} {x : α} : x ∈ srtL lt l ↔ x ∈ l := (List.mergeSort_perm l _).mem_iff
/-- what parts any two -/
structure Tot (lt : α → α → Bool) : Prop where
  swo : SWO lt
  tot : ∀ x y, lt x y = false → lt y x = false → x = y
theorem ins_srtL (h : Tot lt) (l : List α) : (insertionSort lt l.toArray 0 l.length).toList = srtL lt l := by
  have h1 := insertionSort_holds h.swo l.toArray 0 l.length (Nat.zero_le _) (by simp)
  have h2 := sorted_unique_holds h.swo h.tot l.toArray (insertionSort lt l.toArray 0 l.length) (by simpa using h1.1) (by simpa using h1.2)
  exact h2
theorem tot_int : Tot (fun x y : Int => decide (x < y)) where
  swo := ⟨fun x => by simp, fun x y z h k => by simp at *; omega, fun x y z h k => by simp at *; omega⟩
  tot x y h k := by simp at *; omega
instance : Inhabited ByteArray := ⟨emp⟩
theorem tot_slt : Tot slt where
  swo := ⟨slt_irrefl, fun x y z h k => slt_trans h k, fun x y z h k => by
    rcases slt_total x z with e | e | e
    · rcases slt_total x y with g | g | g
      · rw [h] at g; cases g
      · subst g; rw [k] at e; cases e
      · rw [slt_trans g e] at k; cases k
    · subst e; exact slt_irrefl x
    · exact slt_asymm e⟩
  tot x y h k := by
    rcases slt_total x y with e | e | e
    · rw [h] at e; cases e
    · exact e
    · rw [k] at e; cases e
theorem upd_grow {w : World} {b n : Nat} {g : Array Value → Array Value} {os : Array Obj} {o : Obj} (h : w.heap[b]? = some o) : Le (upd (hp w) b (onCells g o)) (hp (grow (mapBlock (Sort.ahead w n) b g) os)) := fun x u e => by
  show (w.heap.modify b (onCells g) ++ os)[x]? = some u
  have hb : b < w.heap.size := (Array.getElem?_eq_some_iff.1 h).1
  have e2 : (w.heap.modify b (onCells g))[x]? = some u := by
    rw [Array.getElem?_modify]
    by_cases k : b = x
    · subst k
      rw [upd_same] at e
      simp only [if_true, h, Option.map_some]; exact e
    · rw [if_neg k]
      simp only [Eng.upd, hp] at e
      rw [if_neg (fun q => k q.symm)] at e; exact e
  have hx : x < (w.heap.modify b (onCells g)).size := (Array.getElem?_eq_some_iff.1 e2).1
  rw [Array.getElem?_append_left hx]; exact e2
theorem putCells_map {enc : α → Value} {l l' : List α} {rest : List Value} (h : l'.length = l.length) : putCells enc 0 l'.toArray (l.map enc ++ rest).toArray = (l'.map enc ++ rest).toArray := by
  apply Array.ext'
  apply List.ext_getElem?
  intro j
  simp only [putCells, Array.toList_mapIdx, List.getElem?_mapIdx, Nat.zero_le, true_and, Nat.zero_add, Nat.sub_zero, List.size_toArray]
  by_cases hj : j < l'.length
  · have hj' : j < l.length := by omega
    simp [List.getElem?_append, hj, hj']
  · have hj' : ¬ j < l.length := by omega
    simp only [List.getElem?_append, List.length_map, hj, hj', if_false, h]
    simp
theorem calls_sort {P : Program} {g : FuncId} {args : Array Value} {E w : World} {L : List Ch} {b n c : Nat} {t : TypeId} {l l' : List α} {enc : α → Value} (s : Sat E w (own (some ⟨b, 0, none⟩) n c t 1 (l.map enc) :: L)) (hl : l'.length = l.length)
    (hc : Holds enc w b 0 l.toArray → b < w.heap.size → Calls P g args w fun e w' => e = .returned (.tuple #[]) ∧ ∃ n os, w' = grow (putRow enc (Sort.ahead w n) b 0 l'.toArray) os) :
    Calls P g args w (Gives E (.tuple #[]) (own (some ⟨b, 0, none⟩) n c t 1 (l'.map enc) :: L)) := by
  obtain ⟨h1, hle, hown, hup⟩ := Sats.upd (i := 0) rfl s.heap
  obtain ⟨ha, hb, hcm, hd⟩ := hown
  rcases hd with ⟨hA, _, _⟩ | ⟨b', rest, hA, hcell, hlen⟩
  · cases hA
  cases hA
  have hw : w.heap[b]? = some (.cells (l.map enc ++ rest).toArray t (0, 0)) := hle b _ hcell
  refine (hc ?_ (Array.getElem?_eq_some_iff.1 hw).1).mono ?_
  · intro j hj
    have hj' : j < l.length := by simpa using hj
    refine ⟨?_, by simp [World.frozen?, hw]⟩
    simp only [World.cell?, hw, Nat.zero_add]
    simp only [Option.isSome_none, Bool.false_eq_true, if_false]
    have e : (l.map enc ++ rest)[j]? = some (enc l[j]) := by
      rw [List.getElem?_append_left (by simpa using hj')]; simp [hj']
    simp [hj', e]
  · rintro e w' ⟨rfl, m, os, rfl⟩
    refine ⟨rfl, s.os, s.tape, s.output, ?_⟩
    have h2 := hup (own (some ⟨b, 0, none⟩) n c t 1 (l'.map enc)) b (.cells (l'.map enc ++ rest).toArray t (0, 0)) (by rw [hcell]; simp)
      ⟨by simpa [hl] using ha, hb, hcm, .inr ⟨b, rest, rfl, upd_same _ _ _, by simpa [hl] using hlen⟩⟩
    have h3 := upd_grow (g := putCells enc 0 l'.toArray) (n := m) (os := os) hw
    rw [show onCells (putCells enc 0 l'.toArray) (.cells (l.map enc ++ rest).toArray t (0, 0)) = .cells (l'.map enc ++ rest).toArray t (0, 0) by rw [onCells, putCells_map hl]] at h3
    exact h2.mono h3
end srt
/-! ### a pointer beside nil -/
section ptrs
variable {P : Program} {m : List (Nat × Value)} {L : List Ch} {o : Oper}
theorem run_equalIn_pnil {t e : TypeId} (ht : P.underlying t = some (.pointer e)) (d : Nat) (a b : Option Addr) (h : a = none ∨ b = none) (w : World) : (Op.equalIn (d + 1) t (.pointer a) (.pointer b)).run P w = .ok (decide (a = b)) w := by
  unfold Op.equalIn
  rcases h with rfl | rfl
  · cases b <;> simp [run_underlying ht]
  · cases a <;> simp [run_underlying ht]
theorem val_pnil_eql {t e u : TypeId} {x y : Operand} {a b : Option Addr} (ho : o.op = .binOp .eql t x y u) (ht : P.underlying t = some (.pointer e)) (hx : ev m x = some (.pointer a)) (hy : ev m y = some (.pointer b)) (h : a = none ∨ b = none) : Val P m L o (.bool (decide (a = b))) := fun ac w f _ => by
  have h1 : (Op.equal t (.pointer a) (.pointer b)).run P w = .ok (decide (a = b)) w := run_equalIn_pnil ht 9999 a b h w
  simp [execOp, ho, f _ _ hx, f _ _ hy, eqGuard, binOp, h1]
theorem val_pnil_neq {t e u : TypeId} {x y : Operand} {a b : Option Addr} (ho : o.op = .binOp .neq t x y u) (ht : P.underlying t = some (.pointer e)) (hx : ev m x = some (.pointer a)) (hy : ev m y = some (.pointer b)) (h : a = none ∨ b = none) : Val P m L o (.bool (decide (a ≠ b))) := fun ac w f _ => by
  have h1 : (Op.equal t (.pointer a) (.pointer b)).run P w = .ok (decide (a = b)) w := run_equalIn_pnil ht 9999 a b h w
  simp [execOp, ho, f _ _ hx, f _ _ hy, eqGuard, binOp, h1]
end ptrs
/-! ### a row that a variable holds, wherever the row lies -/
def exRow (B : Nat) (tb t : TypeId) (s n : Nat) (xs : List Value) : Ch := fun h => ∃ q : Option Addr × Nat, cat [own (some ⟨B, 0, none⟩) 1 1 tb 1 [.slice q.1 n q.2], own q.1 n q.2 t s xs] h
theorem Pk.exRow {E : World} {N : Nat} {M : List (Nat × Value)} {L : List Ch} {X : Act → World → Prop} {B : Nat} {tb t : TypeId} {s n : Nat} {xs : List Value}
    (k : ∀ q : Option Addr × Nat, Pk E N M (own (some ⟨B, 0, none⟩) 1 1 tb 1 [.slice q.1 n q.2] :: own q.1 n q.2 t s xs :: L) X) : Pk E N M (Eng.exRow B tb t s n xs :: L) X := fun a w f st => by
  obtain ⟨h1, h2, x, y, z, ⟨u, p⟩, q⟩ := st.heap
  exact k u a w f ⟨st.os, st.tape, st.output, Sats.cat_open (A := [_, _]) ⟨h1, h2, x, y, z, p, q⟩⟩
theorem Sats.exRow {L : List Ch} {h : Hp} {B : Nat} {tb t : TypeId} {s n : Nat} {xs : List Value} (q : Option Addr × Nat) (k : Sats (own (some ⟨B, 0, none⟩) 1 1 tb 1 [.slice q.1 n q.2] :: own q.1 n q.2 t s xs :: L) h) : Sats (Eng.exRow B tb t s n xs :: L) h :=
  Sats.head (fun _ o => ⟨q, o⟩) (Sats.cat_shut (A := [_, _]) k)
end Go.Proofs.Eng
