/- The engine, part 14: two texts as a struct; rows by number, written full with marks and lengthened. -/
import Derived.Test.YtdpckendkklfdaaGreatEngM
import Derived.Test.YtdpckendkklfdaaGreatEngJ
set_option linter.unusedVariables false
set_option linter.unusedSimpArgs false
set_option linter.unusedSectionVars false
namespace Go.Proofs.Eng
open Go.RowKit
def sC1 : ByteArray → List Value := fun s => [.string s]
theorem sC1_map (l : List ByteArray) : l.flatMap sC1 = l.map .string := by induction l with
  | nil => rfl
  | cons a l ih => rw [List.flatMap_cons, ih]; rfl
abbrev Pr := ByteArray × ByteArray
def pC2 : Pr → List Value := fun p => [.string p.1, .string p.2]
theorem pC2_len (p : Pr) : (pC2 p).length = 2 := rfl
theorem sC1_len (p : ByteArray) : (sC1 p).length = 1 := rfl
def dPr : Pr := (emp, emp)
theorem all_map_flat {α : Type} {enc : α → List Value} (h : ∀ x, (enc x).all (·.oneCell') = true) (l : List α) : (l.flatMap enc).all (·.oneCell') = true := by
  rw [List.all_flatMap]
  exact List.all_eq_true.2 fun v _ => h v
abbrev encSS : ByteArray × ByteArray → Value := fun p => .agg #[.string p.1, .string p.2]
structure PairSOk (P : Program) (kt : TypeId) : Prop where
  ex : ∃ f1 f2 : Field, P.underlying kt = some (.struct #[f1, f2]) ∧ f1.name ≠ "_" ∧ f2.name ≠ "_" ∧ f1.offset = 0 ∧ f2.offset = 1 ∧ P.underlying f1.type = some .string ∧ P.underlying f2.type = some .string
  held : P.stoodInHeld kt = false
section
variable {P : Program} {m : List (Nat × Value)} {L : List Ch} {o : Oper}
theorem run_equal_pairS {kt : TypeId} (hk : PairSOk P kt) (p q : ByteArray × ByteArray) (d : Nat) (w : World) : (Op.equalIn (d + 2) kt (encSS p) (encSS q)).run P w = .ok (decide (p = q)) w := by
  obtain ⟨f1, f2, hu, n1, n2, o1, o2, u1, u2⟩ := hk.ex
  have hfs : P.fieldsOf kt = #[f1, f2] := by simp [Program.fieldsOf, hu]
  obtain ⟨a, b⟩ := p
  obtain ⟨c, e⟩ := q
  rw [show d + 2 = (d + 1) + 1 from rfl, run_equalIn_struct w (d + 1) kt _ _ (by rw [hfs]; exact hu) hk.held, hfs]
  have p1 : ∀ w, (part f1.type #[Value.string a, .string b] f1.offset).run P w = .ok (.string a) w := fun w => run_part_plain u1 rfl (by rw [o1]; rfl) w
  have p2 : ∀ w, (part f1.type #[Value.string c, .string e] f1.offset).run P w = .ok (.string c) w := fun w => run_part_plain u1 rfl (by rw [o1]; rfl) w
  have p3 : ∀ w, (part f2.type #[Value.string a, .string b] f2.offset).run P w = .ok (.string b) w := fun w => run_part_plain u2 rfl (by rw [o2]; rfl) w
  have p4 : ∀ w, (part f2.type #[Value.string c, .string e] f2.offset).run P w = .ok (.string e) w := fun w => run_part_plain u2 rfl (by rw [o2]; rfl) w
  have e1 : ∀ w, (Op.equalIn (d + 1) f1.type (.string a) (.string c)).run P w = .ok (decide (a = c)) w := fun w => by rw [run_equalIn_string w d f1.type a c u1, str_beq]
  have e2 : ∀ w, (Op.equalIn (d + 1) f2.type (.string b) (.string e)).run P w = .ok (decide (b = e)) w := fun w => by rw [run_equalIn_string w d f2.type b e u2, str_beq]
  by_cases h1 : a = c
  · subst h1
    by_cases h2 : b = e
    · subst h2
      simp [Op.eqFields, n1, n2, p1, p2, p3, p4, e1, e2]
    · simp [Op.eqFields, n1, n2, p1, p2, p3, p4, e1, e2, h2]
  · simp [Op.eqFields, n1, n2, p1, p2, p3, p4, e1, e2, h1]
theorem val_pairS_neq {t u : TypeId} {x y : Operand} {p q : ByteArray × ByteArray} (hk : PairSOk P t) (hg : P.eqGuardType P.depth t = false) (ho : o.op = .binOp .neq t x y u) (hx : ev m x = some (encSS p)) (hy : ev m y = some (encSS q)) : Val P m L o (.bool (decide (p ≠ q))) := fun a w f _ => by
  have h := run_equal_pairS hk p q 9998 w
  simp [execOp, ho, f _ _ hx, f _ _ hy, run_eqGuard_agg (P := P) w .neq t x y _ _ hg, run_neq_struct, h]
theorem val_pairS_eql {t u : TypeId} {x y : Operand} {p q : ByteArray × ByteArray} (hk : PairSOk P t) (hg : P.eqGuardType P.depth t = false) (ho : o.op = .binOp .eql t x y u) (hx : ev m x = some (encSS p)) (hy : ev m y = some (encSS q)) : Val P m L o (.bool (decide (p = q))) := fun a w f _ => by
  have h := run_equal_pairS hk p q 9998 w
  simp [execOp, ho, f _ _ hx, f _ _ hy, run_eqGuard_agg (P := P) w .eql t x y _ _ hg, run_eql_struct, h]
end
/-! ### rows by number, with marks -/
section marks
variable (T : TypeId) (s : Nat) (mk : Nat → List Value)
def gAm (ls : List Row) (i : Nat) (j : Nat) : Ch := if j < i then full T s (ls.getD j dRow) (mk j) else rowAny T s (ls.getD j dRow)
def gBm (ls : List Row) (done : List (Option Addr × Nat)) (j : Nat) : Ch := match done[j]? with
  | none => full T s (ls.getD j dRow) (mk j)
  | some q => lr T s (ls.getD j dRow).A (ls.getD j dRow).n q.1 ((ls.getD j dRow).n + 30) q.2 (mk j)
def longVm (ls : List Row) (done : List (Option Addr × Nat)) (k : Nat) : List Value := (List.range k).map fun j => .slice (done.getD j (none, 0)).1 ((ls.getD j dRow).n + 30) (done.getD j (none, 0)).2
theorem longVm_snoc (ls : List Row) (done : List (Option Addr × Nat)) (q : Option Addr × Nat) : longVm ls (done ++ [q]) (done.length + 1) = longVm ls done done.length ++ [.slice q.1 ((ls.getD done.length dRow).n + 30) q.2] := by
  simp only [longVm, List.range_succ, List.map_append]
  congr 1
  · refine List.map_congr_left fun j hj => ?_
    have hj' : j < done.length := by simpa using hj
    simp [hj', List.getElem?_append_left hj']
  · simp
theorem longVm_get {ls : List Row} {done : List (Option Addr × Nat)} {j k : Nat} (h : j < k) : (longVm ls done k)[j]? = some (.slice (done.getD j (none, 0)).1 ((ls.getD j dRow).n + 30) (done.getD j (none, 0)).2) := by simp [longVm, h]
theorem longVm_len (ls : List Row) (done : List (Option Addr × Nat)) (k : Nat) : (longVm ls done k).length = k := by simp [longVm]
variable {T s mk}
theorem gAm_end (ls : List Row) : Eng.cat ((List.range ls.length).map (gAm T s mk ls ls.length)) = Eng.cat ((List.range ls.length).map (gBm T s mk ls [])) := num_congr fun j hj => by simp [gAm, gBm, hj]
theorem gAm_next {ls : List Row} {i : Nat} : ∀ j, j < ls.length → j ≠ i → gAm T s mk ls i j = gAm T s mk ls (i + 1) j := fun j _ h => by
  have : j < i ↔ j < i + 1 := by omega
  simp only [gAm, this]
theorem gBm_next {ls : List Row} {done : List (Option Addr × Nat)} (q : Option Addr × Nat) : ∀ j, j < ls.length → j ≠ done.length → gBm T s mk ls done j = gBm T s mk ls (done ++ [q]) j := fun j _ h => by
  simp only [gBm]
  by_cases hj : j < done.length
  · rw [List.getElem?_append_left hj]
  · rw [List.getElem?_eq_none (by omega), List.getElem?_append_right (by omega), List.getElem?_eq_none (by simp; omega)]
theorem gBm_done {ls : List Row} {done : List (Option Addr × Nat)} {j : Nat} (h : j < done.length) : gBm T s mk ls done j = lr T s (ls.getD j dRow).A (ls.getD j dRow).n (done.getD j (none, 0)).1 ((ls.getD j dRow).n + 30) (done.getD j (none, 0)).2 (mk j) := by
  simp [gBm, h]
theorem gBm_last (ls : List Row) (done : List (Option Addr × Nat)) (q : Option Addr × Nat) : gBm T s mk ls (done ++ [q]) done.length = lr T s (ls.getD done.length dRow).A (ls.getD done.length dRow).n q.1 ((ls.getD done.length dRow).n + 30) q.2 (mk done.length) := by simp [gBm]
theorem gBm_new (ls : List Row) (done : List (Option Addr × Nat)) : gBm T s mk ls done done.length = full T s (ls.getD done.length dRow) (mk done.length) := by simp [gBm]
theorem gAm_new (ls : List Row) (i : Nat) : gAm T s mk ls i i = rowAny T s (ls.getD i dRow) := by simp [gAm]
theorem gAm_old (ls : List Row) (i : Nat) : gAm T s mk ls (i + 1) i = full T s (ls.getD i dRow) (mk i) := by simp [gAm]
theorem gAm_start (ls : List Row) : Eng.cat (ls.map (rowAny T s)) = Eng.cat ((List.range ls.length).map (gAm T s mk ls 0)) := by
  rw [num_list ls dRow]
  exact num_congr fun j hj => by simp [gAm]
/-- all rows are marked and long: what each of them holds -/
theorem gBm_long {ls : List Row} {done : List (Option Addr × Nat)} {L : List Ch} {i : Nat} (n : Nat) (h : L[n]? = some (Eng.cat ((List.range ls.length).map (gBm T s mk ls done)))) (hi : i < ls.length) (hd : done.length = ls.length) : Ent L (RdL (done.getD i (none, 0)).1 (reps ((ls.getD i dRow).n + 30) (mk i))) :=
  Ent.num n h hi (fun h o => lr_long (by rw [gBm_done (by omega)] at o; exact o)) (fun _ _ le r => RdL.mono r le)
theorem gBm_short {ls : List Row} {done : List (Option Addr × Nat)} {L : List Ch} {i : Nat} (n : Nat) (h : L[n]? = some (Eng.cat ((List.range ls.length).map (gBm T s mk ls done)))) (hi : i < ls.length) (hd : done.length = ls.length) : Ent L (RdL (ls.getD i dRow).A (reps (ls.getD i dRow).n (mk i))) :=
  Ent.num n h hi (fun h o => lr_short (Nat.le_add_right _ 30) (by rw [gBm_done (by omega)] at o; exact o)) (fun _ _ le r => RdL.mono r le)
end marks
theorem Ent.imp {L : List Ch} {F G : Hp → Prop} (e : Ent L F) (f : ∀ h, F h → G h) : Ent L G := fun h s => f h (e h s)
theorem Sats.cat_mono {α : Type} {f g : α → Ch} : ∀ {l : List α} {L : List Ch} {h : Hp}, (∀ x ∈ l, ∀ h, f x h → g x h) → Sats (Eng.cat (l.map f) :: L) h → Sats (Eng.cat (l.map g) :: L) h
  | [], _, _, _, s => s
  | a :: r, L, h, hfg, s => by
    have s1 : Sats (f a :: (r.map f ++ L)) h := Sats.cat_open (A := (a :: r).map f) s
    have s2 : Sats (g a :: (r.map f ++ L)) h := Sats.head (fun h o => hfg a (by simp) h o) s1
    have s3 : Sats (g a :: (r.map g ++ L)) h := Sats.under (fun _ s => Sats.cat_open (Sats.cat_mono (fun x hx => hfg x (by simp [hx])) (Sats.cat_shut s))) s2
    exact Sats.cat_shut (A := (a :: r).map g) s3
/-- two lists of rows, by turns -/
def interR : List Row → List Row → List Row
  | a :: r, b :: q => a :: b :: interR r q
  | _, _ => []
theorem Sats.interR {f : Row → Ch} : ∀ (xs ys : List Row) {L : List Ch} {h : Hp}, xs.length = ys.length → Sats (Eng.cat (xs.map f) :: Eng.cat (ys.map f) :: L) h → Sats (Eng.cat ((Eng.interR xs ys).map f) :: L) h
  | [], [], _, _, _, s => s.tail
  | a :: r, b :: q, L, h, e, s => by
    have s1 : Sats (f a :: (r.map f ++ Eng.cat ((b :: q).map f) :: L)) h := Sats.cat_open (A := (a :: r).map f) s
    have s2 : Sats (f a :: Eng.cat (r.map f) :: Eng.cat ((b :: q).map f) :: L) h := Sats.under (fun _ s => Sats.cat_shut s) s1
    have s3 : Sats (f a :: f b :: Eng.cat (q.map f) :: Eng.cat (r.map f) :: L) h := Sats.under (fun _ s => by
      have t1 := Sats.swap s
      have t2 : Sats (f b :: (q.map f ++ Eng.cat (r.map f) :: L)) _ := Sats.cat_open (A := (b :: q).map f) t1
      exact Sats.under (fun _ s => Sats.cat_shut s) t2) s2
    have s4 : Sats (f a :: f b :: Eng.cat ((Eng.interR r q).map f) :: L) h := Sats.under (fun _ s => Sats.under (fun _ s => Sats.interR r q (by simpa using e) (Sats.swap s)) s) s3
    have s5 : Sats (f a :: f b :: ((Eng.interR r q).map f ++ L)) h := Sats.under (fun _ s => Sats.under (fun _ s => Sats.cat_open s) s) s4
    exact Sats.cat_shut (A := (Eng.interR (a :: r) (b :: q)).map f) s5
  | [], _ :: _, _, _, e, _ => by simp at e
  | _ :: _, [], _, _, e, _ => by simp at e
theorem interR_snoc : ∀ (xs ys : List Row) (k : Nat), k < xs.length → xs.length = ys.length → interR (xs.take (k + 1)) (ys.take (k + 1)) = interR (xs.take k) (ys.take k) ++ [xs.getD k dRow, ys.getD k dRow]
  | a :: r, b :: q, 0, _, _ => by simp [interR]
  | a :: r, b :: q, k + 1, h, e => by
    have := interR_snoc r q k (by simpa using h) (by simpa using e)
    simp only [List.take_succ_cons, interR, this]
    simp
  | [], _, _, h, _ => by simp at h
  | _ :: _, [], _, _, e => by simp at e
theorem interR_len : ∀ (xs ys : List Row), xs.length = ys.length → (interR xs ys).length = 2 * xs.length
  | [], [], _ => rfl
  | a :: r, b :: q, e => by simp [interR, interR_len r q (by simpa using e)]; omega
  | [], _ :: _, e => by simp at e
  | _ :: _, [], e => by simp at e
theorem interR_mem : ∀ {xs ys : List Row} {v : Row}, v ∈ interR xs ys → v ∈ xs ∨ v ∈ ys
  | [], _, _, h => by simp [interR] at h
  | _ :: _, [], _, h => by simp [interR] at h
  | a :: r, b :: q, v, h => by
    simp only [interR, List.mem_cons] at h
    rcases h with rfl | rfl | h
    · simp
    · simp
    · rcases interR_mem h with h | h <;> simp [h]
theorem interR_take_len (xs ys : List Row) (k : Nat) (h : xs.length = ys.length) (hk : k ≤ xs.length) : ((interR (xs.take k) (ys.take k)).map rowV).length = 2 * k := by
  rw [List.length_map, interR_len _ _ (by simp; omega), List.length_take, Nat.min_eq_left hk]
end Go.Proofs.Eng
