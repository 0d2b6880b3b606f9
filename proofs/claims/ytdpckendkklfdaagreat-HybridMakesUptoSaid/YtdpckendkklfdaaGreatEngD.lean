/- The engine, part 4: regions that draw their order, calls, a function's beginning and end. -/
import Derived.Test.YtdpckendkklfdaaGreatEngC
set_option linter.unusedVariables false
set_option linter.unusedSimpArgs false
namespace Go.Proofs.Eng
open Go.RowKit

/-- the pieces that bs says -/
def keepL : List Bool → List Ch → List Ch
  | [], L => L
  | _, [] => []
  | true :: bs, c :: L => c :: keepL bs L
  | false :: bs, _ :: L => keepL bs L
theorem Sats.keep : ∀ (bs : List Bool) {L : List Ch} {h : Hp}, Sats L h → Sats (keepL bs L) h
  | [], _, _, s => by unfold keepL; exact s
  | true :: bs, [], _, _ => trivial
  | false :: bs, [], _, _ => trivial
  | true :: bs, c :: L, h, s => Sats.under (fun h q => Sats.keep bs q) s
  | false :: bs, c :: L, h, s => Sats.keep bs s.tail
theorem Sats.app {A L : List Ch} {h : Hp} (s : Sats (A ++ L) h) : Sats L h := by
  induction A with
  | nil => exact s
  | cons c A ih => exact ih s.tail

/-- Pieces lie in heaps of their own. -/
theorem Sats.iff : ∀ {L : List Ch} {h : Hp}, Sats L h ↔ ∃ f : Nat → Hp, (∀ i c, L[i]? = some c → c (f i) ∧ Le (f i) h) ∧ ∀ i j, i < L.length → j < L.length → i ≠ j → ∀ b, f i b = none ∨ f j b = none
  | [], h => ⟨fun _ => ⟨fun _ _ => none, fun i c e => (by cases e), fun i j hi => (by simp at hi)⟩, fun _ => trivial⟩
  | c :: L, h => by
    constructor
    · rintro ⟨h1, h2, a, b, d, p, q⟩
      obtain ⟨f, f1, f2⟩ := Sats.iff.1 q
      refine ⟨fun i => match i with | 0 => h1 | i + 1 => f i, fun i c' e => ?_, fun i j hi hj hne x => ?_⟩
      · cases i with
        | zero => simp at e; subst e; exact ⟨p, a⟩
        | succ i => have := f1 i c' (by simpa using e); exact ⟨this.1, this.2.trans b⟩
      · have under : ∀ k, k < L.length → f k x = none ∨ h1 x = none := fun k hk => by
          rcases d x with e | e
          · exact .inr e
          · exact .inl (le_none (f1 k _ (List.getElem?_eq_getElem hk)).2 e)
        cases i with
        | zero =>
          cases j with
          | zero => exact absurd rfl hne
          | succ j => exact (under j (by simpa using hj)).symm
        | succ i =>
          cases j with
          | zero => exact under i (by simpa using hi)
          | succ j => exact f2 i j (by simpa using hi) (by simpa using hj) (by omega) x
    · rintro ⟨f, f1, f2⟩
      refine ⟨f 0, fun b => match f 0 b with | some _ => none | none => h b, (f1 0 c rfl).2, fun b o e => ?_, fun b => ?_, (f1 0 c rfl).1, Sats.iff.2 ⟨fun i => f (i + 1), fun i c' e => ?_, fun i j hi hj hne => ?_⟩⟩
      · dsimp only at e
        split at e
        · cases e
        · exact e
      · dsimp only
        cases e : f 0 b with
        | none => exact .inl rfl
        | some o => exact .inr rfl
      · have := f1 (i + 1) c' (by simpa using e)
        refine ⟨this.1, fun b o eb => ?_⟩
        have hi : i < L.length := (List.getElem?_eq_some_iff.1 e).1
        have h0 : f 0 b = none := by
          rcases f2 0 (i + 1) (by simp) (by simpa using hi) (by omega) b with e0 | e0
          · exact e0
          · simp only [e0] at eb; cases eb
        dsimp only
        rw [h0]
        exact this.2 b o eb
      · exact f2 (i + 1) (j + 1) (by simpa using hi) (by simpa using hj) (by omega)
def pickL (n : Nat) (idx : List Nat) (L : List Ch) : List Ch := idx.map (fun i => L.getD i (fun _ => True)) ++ L.drop n
def nodupB : List Nat → Bool
  | [] => true
  | i :: r => (r.all fun j => !Nat.beq i j) && nodupB r
theorem nodupB_spec : ∀ {l : List Nat}, nodupB l = true → ∀ (i j a : Nat), l[i]? = some a → l[j]? = some a → i = j
  | [], _, _, _, _, h, _ => by simp at h
  | x :: r, hn, i, j, a, hi, hj => by
    simp only [nodupB, Bool.and_eq_true, List.all_eq_true, Bool.not_eq_true'] at hn
    cases i with
    | zero =>
      cases j with
      | zero => rfl
      | succ j =>
        simp at hi hj
        subst hi
        have := hn.1 x (List.mem_of_getElem? hj)
        simp at this
    | succ i =>
      cases j with
      | zero =>
        simp at hi hj
        subst hj
        have := hn.1 x (List.mem_of_getElem? hi)
        simp at this
      | succ j => have := nodupB_spec hn.2 i j a (by simpa using hi) (by simpa using hj); omega
/-- pieces in an order of our own; the first n that are not named go -/
theorem Sats.pick (n : Nat) (idx : List Nat) {L : List Ch} {h : Hp} (hok : ((idx.all fun i => Nat.blt i n) && nodupB idx) = true) (s : Sats L h) : Sats (pickL n idx L) h := by
  simp only [Bool.and_eq_true, List.all_eq_true] at hok
  obtain ⟨h1, h2⟩ := hok
  obtain ⟨f, f1, f2⟩ := Sats.iff.1 s
  -- a heap of nothing stands where no piece is
  refine Sats.iff.2 ⟨fun k => if k < idx.length then (if idx.getD k 0 < L.length then f (idx.getD k 0) else fun _ => none) else f (n + (k - idx.length)), fun k c e => ?_, fun i j hi hj hne b => ?_⟩
  · simp only [pickL] at e
    by_cases hk : k < idx.length
    · rw [List.getElem?_append_left (by simpa using hk)] at e
      simp only [hk, if_true]
      simp only [List.getElem?_map, List.getElem?_eq_getElem hk, Option.map_some, Option.some.injEq] at e
      have hg : idx.getD k 0 = idx[k] := by simp [hk]
      rw [hg]
      by_cases hl : idx[k] < L.length
      · simp only [hl, if_true]
        have : L[idx[k]]? = some c := by rw [← e]; simp [hl]
        exact f1 _ _ this
      · simp only [hl, if_false]
        have : c = fun _ => True := by rw [← e]; simp [hl]
        rw [this]
        exact ⟨trivial, fun b o e => by cases e⟩
    · rw [List.getElem?_append_right (by simpa using Nat.le_of_not_lt hk)] at e
      simp only [hk, if_false]
      rw [List.length_map, List.getElem?_drop] at e
      exact f1 _ _ e
  · have len : (pickL n idx L).length = idx.length + (L.length - n) := by simp [pickL]
    rw [len] at hi hj
    have lt : ∀ k, k < idx.length → idx.getD k 0 < n := fun k hk => by
      have := h1 (idx.getD k 0) (by simp [hk])
      simpa using this
    by_cases hik : i < idx.length <;> by_cases hjk : j < idx.length
    · simp only [hik, hjk, if_true]
      split
      · split
        · refine f2 _ _ (by assumption) (by assumption) (fun e => hne ?_) b
          exact nodupB_spec h2 i j (idx.getD i 0) (by simp [hik]) (by rw [e]; simp [hjk])
        · exact .inr rfl
      · exact .inl rfl
    · simp only [hik, hjk, if_true, if_false]
      split
      · exact f2 _ _ (by assumption) (by omega) (by have := lt i hik; omega) b
      · exact .inl rfl
    · simp only [hik, hjk, if_true, if_false]
      split
      · exact f2 _ _ (by omega) (by assumption) (by have := lt j hjk; omega) b
      · exact .inr rfl
    · simp only [hik, hjk, if_false]
      exact f2 _ _ (by omega) (by omega) (by omega) b
section order
variable {P : Program} {ops : Array Oper} {Q : Exit → Act → World → Prop} {md : Region.Mode} {S : World → Prop} {last n : Nat}
/-- Whatever order is picked from here on; behind each operation, the last one left out, S holds. -/
def wpAnyR (P : Program) (md : Region.Mode) (ops : Array Oper) (Q : Exit → Act → World → Prop) (S : World → Prop) (last : Nat) : Nat → Array Bool → Act → World → Prop
  | 0, listed, a, w => Region.ready md ops listed = [] ∧ Q .normal a w
  | fuel + 1, listed, a, w => (Region.ready md ops listed = [] → Q .normal a w) ∧
    ∀ i ∈ Region.ready md ops listed, wpOp P ops Q i (fun a' w' => (i = last ∨ S w') ∧ wpAnyR P md ops Q S last fuel (listed.setIfInBounds i true) a' w') a w
theorem wpAny_of_R : ∀ (fuel : Nat) (listed : Array Bool) (a : Act) (w : World), wpAnyR P md ops Q S last fuel listed a w → wpAny P md ops Q fuel listed a w
  | 0, _, _, _, h => h
  | fuel + 1, _, _, _, h => ⟨h.1, fun i hi => wpOp_mono (fun a' w' h' => wpAny_of_R fuel _ a' w' h'.2) (h.2 i hi)⟩
/-- number j waits for number i -/
def waitsB (md : Region.Mode) (ops : Array Oper) (j i : Nat) : Bool := ((ops[j]?).map (·.after.any fun e => Region.binds md e && e.on == i)).getD true
/-- what an operation waits for -/
def markA (md : Region.Mode) (S : Array Bool) (o : Oper) : Array Bool := o.after.toList.foldl (fun S e => if Region.binds md e = true then S.setIfInBounds e.on true else S) S
def closeA (md : Region.Mode) (ops : Array Oper) : List Nat → Array Bool → Array Bool
  | [], S => S
  | i :: r, S => closeA md ops r (if S.getD i false = true then (match ops[i]? with | some o => markA md S o | none => S) else S)
/-- The last operation waits for every other, itself or through others. -/
def lastB (md : Region.Mode) (ops : Array Oper) (last : Nat) : Bool := match ops[last]? with
  | none => true
  | some o => (List.range ops.size).all fun i => i == last || (closeA md ops (List.range ops.size).reverse (markA md (Array.replicate ops.size false) o)).getD i false
/-- What is listed has what it waits for listed. -/
def Closed (md : Region.Mode) (ops : Array Oper) (listed : Array Bool) : Prop := ∀ k ok, ops[k]? = some ok → listed.getD k false = true → ∀ e ∈ ok.after, Region.binds md e = true → listed.getD e.on false = true
theorem markA_good {G : Nat → Prop} {o : Oper} (hg : ∀ e ∈ o.after.toList, Region.binds md e = true → G e.on) {S : Array Bool} (hS : ∀ x, S.getD x false = true → G x) : ∀ x, (markA md S o).getD x false = true → G x := by
  unfold markA
  generalize o.after.toList = es at hg
  induction es generalizing S with
  | nil => exact hS
  | cons e r ih =>
    rw [List.foldl_cons]
    refine ih (fun x hx => ?_) (fun e' he' => hg e' (List.mem_cons_of_mem _ he'))
    split at hx
    · rename_i hb
      rw [Array.getD_eq_getD_getElem?, Array.getElem?_setIfInBounds] at hx
      split at hx
      · rename_i h1; rw [← h1]; exact hg e (by simp) hb
      · rw [← Array.getD_eq_getD_getElem?] at hx; exact hS x hx
    · exact hS x hx
theorem closeA_good {G : Nat → Prop} (hc : ∀ i o, ops[i]? = some o → G i → ∀ e ∈ o.after.toList, Region.binds md e = true → G e.on) : ∀ (r : List Nat) (S : Array Bool), (∀ x, S.getD x false = true → G x) → ∀ x, (closeA md ops r S).getD x false = true → G x
  | [], S, hS => hS
  | i :: r, S, hS => by
    unfold closeA
    refine closeA_good hc r _ fun x hx => ?_
    split at hx
    · rename_i hi
      split at hx
      · rename_i o ho
        exact markA_good (hc i o ho (hS i hi)) hS x hx
      · exact hS x hx
    · exact hS x hx
theorem Closed.start : Closed md ops (Array.replicate n false) := fun k ok _ h => by
  rw [Array.getD_eq_getD_getElem?] at h
  by_cases hk : k < n <;> simp [hk] at h
theorem Closed.set {listed : Array Bool} {j : Nat} (h : Closed md ops listed) (hj : j ∈ Region.ready md ops listed) : Closed md ops (listed.setIfInBounds j true) := fun k ok hk hl e he hb => by
  obtain ⟨hjun, oj, hoj, hall⟩ := mem_ready.1 hj
  have up : ∀ x, listed.getD x false = true → (listed.setIfInBounds j true).getD x false = true := fun x hx => by
    rw [Array.getD_eq_getD_getElem?, Array.getElem?_setIfInBounds]
    rw [Array.getD_eq_getD_getElem?] at hx
    split
    · rename_i e; subst e
      split
      · rfl
      · rename_i h'; rw [Array.getElem?_eq_none (by omega)] at hx; simp at hx
    · exact hx
  by_cases e' : k = j
  · subst e'
    rw [hoj] at hk; cases hk
    exact up _ (hall e he hb)
  · have : listed.getD k false = true := by
      rw [Array.getD_eq_getD_getElem?, Array.getElem?_setIfInBounds_ne (fun h => e' h.symm)] at hl
      rw [Array.getD_eq_getD_getElem?]; exact hl
    exact up _ (h k ok hk this e he hb)
theorem wpAnyR_first (hl : lastB md ops last = true) {i : Nat} {oi : Oper} {v : Value} (hi : ops[i]? = some oi) (hne : i ≠ last) (hsel : ∀ (j : Nat) (o : Oper) cs b, ops[j]? = some o → o.op ≠ .select cs b)
    (hQ : ∀ c a w, Q (.panic c) (a.put oi.dst v) w → Q (.panic c) a w) :
    ∀ (fuel : Nat) (listed : Array Bool) (a : Act) (w : World),
      (∀ j oj, ops[j]? = some oj → j ≠ i → listed.getD j true = false → (∀ e ∈ oj.after, Region.binds md e = true → e.on ≠ i) → oi.apart ops oj = true) →
      Closed md ops listed → i ∈ Region.ready md ops listed → YieldsIf P ops S oi v a → S w →
      wpAnyR P md ops Q S last fuel (listed.setIfInBounds i true) (a.put oi.dst v) w → wpAnyR P md ops Q S last (fuel + 1) listed a w := by
  intro fuel
  induction fuel with
  | zero =>
    intro listed a w _ _ hr hy hS H
    refine ⟨fun h => (by rw [h] at hr; cases hr), fun j hj => ?_⟩
    by_cases hji : j = i
    · subst hji; exact hy.wpOp hi hS ⟨.inr hS, H⟩
    · have := ready_mono hj hji
      rw [H.1] at this
      cases this
  | succ fuel ih =>
    intro listed a w hfree hcl hr hy hS H
    refine ⟨fun h => (by rw [h] at hr; cases hr), fun j hj => ?_⟩
    by_cases hji : j = i
    · subst hji; exact hy.wpOp hi hS ⟨.inr hS, H⟩
    · have h1 := H.2 j (ready_mono hj hji)
      obtain ⟨hjun, oj, hoj, hall⟩ := mem_ready.1 hj
      have hiu := (mem_ready.1 hr).1
      have hlisted : listed.getD i false = false := by
        rcases Nat.lt_or_ge i listed.size with h' | h'
        · simp [h'] at hiu ⊢; exact hiu
        · simp [Array.getElem?_eq_none h'] at hiu
      have hnot : ∀ e ∈ oj.after, Region.binds md e = true → e.on ≠ i := fun e he hb heq => by
        have h1 := hall e he hb
        rw [heq, hlisted] at h1; cases h1
      have hjl : j ≠ last := fun hjl => by
        subst hjl
        have hii : i < ops.size := (Array.getElem?_eq_some_iff.1 hi).1
        simp only [lastB, hoj] at hl
        have := List.all_eq_true.1 hl i (by simpa using hii)
        simp only [Bool.or_eq_true, beq_iff_eq] at this
        rcases this with h | h
        · exact hji h.symm
        · have hg : listed.getD i false = true := closeA_good (G := fun x => listed.getD x false = true) (fun k ok hk hl e he hb => hcl k ok hk hl e (Array.mem_toList_iff.1 he) hb) _ _ (markA_good (fun e he hb => hall e (Array.mem_toList_iff.1 he) hb) (fun x hx => by
            rw [Array.getD_eq_getD_getElem?] at hx
            by_cases hk : x < ops.size <;> simp [hk] at hx)) i h
          rw [hlisted] at hg; cases hg
      have h2 := wpOp_putIf hoj (hfree j oj hoj hji hjun hnot) (fun cs b => hsel i oi cs b hi) (fun cs b => hsel j oj cs b hoj) hQ hy h1
      have hfree' : ∀ k ok, ops[k]? = some ok → k ≠ i → (listed.setIfInBounds j true).getD k true = false →
          (∀ e ∈ ok.after, Region.binds md e = true → e.on ≠ i) → oi.apart ops ok = true := fun k ok hk hki hun hno => by
        refine hfree k ok hk hki ?_ hno
        by_cases hjk : j = k
        · subst hjk; exact hjun
        · rw [getD_set_ne true hjk] at hun; exact hun
      refine wpOp_mono (fun a' w' h3 => ?_) h2
      have hS' : S w' := h3.2.1.resolve_left hjl
      refine ⟨.inr hS', ih (listed.setIfInBounds j true) a' w' hfree' (hcl.set hj) (ready_mono hr (Ne.symm hji)) h3.1 hS' ?_⟩
      rw [Array.setIfInBounds_comm _ _ hji]
      exact h3.2.2
/-- An order of our own: val i: number i only computes; eff i: nothing else may come up; two, three: just these may come up. -/
inductive Ord where
  | nil
  | val (i : Nat) (r : Ord)
  | eff (i : Nat) (r : Ord)
  | two (i : Nat) (ri : Ord) (j : Nat) (rj : Ord)
  | three (i : Nat) (ri : Ord) (j : Nat) (rj : Ord) (k : Nat) (rk : Ord)
def Ord.depth : Ord → Nat
  | .nil => 0
  | .val _ r | .eff _ r => r.depth + 1
  | .two _ a _ b => max a.depth b.depth + 1
  | .three _ a _ b _ c => max a.depth (max b.depth c.depth) + 1
def wpOrd (P : Program) (ops : Array Oper) (Q : Exit → Act → World → Prop) (S : World → Prop) (last : Nat) : Ord → Act → World → Prop
  | .nil, a, w => Q .normal a w
  | .val i r, a, w => ∃ o v, ops[i]? = some o ∧ YieldsIf P ops S o v a ∧ S w ∧ wpOrd P ops Q S last r (a.put o.dst v) w
  | .eff i r, a, w => wpOp P ops Q i (fun a' w' => (i = last ∨ S w') ∧ wpOrd P ops Q S last r a' w') a w
  | .two i ri j rj, a, w => wpOp P ops Q i (fun a' w' => (i = last ∨ S w') ∧ wpOrd P ops Q S last ri a' w') a w ∧ wpOp P ops Q j (fun a' w' => (j = last ∨ S w') ∧ wpOrd P ops Q S last rj a' w') a w
  | .three i ri j rj k rk, a, w => wpOp P ops Q i (fun a' w' => (i = last ∨ S w') ∧ wpOrd P ops Q S last ri a' w') a w ∧ wpOp P ops Q j (fun a' w' => (j = last ∨ S w') ∧ wpOrd P ops Q S last rj a' w') a w ∧
      wpOp P ops Q k (fun a' w' => (k = last ∨ S w') ∧ wpOrd P ops Q S last rk a' w') a w
def ordOk (md : Region.Mode) (ops : Array Oper) (last : Nat) : Array Bool → Ord → Bool
  | listed, .nil => (Region.ready md ops listed).isEmpty
  | listed, .val i r => (Region.ready md ops listed).contains i && Region.free md ops listed i && !Nat.beq i last && ordOk md ops last (listed.setIfInBounds i true) r
  | listed, .eff i r => (Region.ready md ops listed == [i]) && ordOk md ops last (listed.setIfInBounds i true) r
  | listed, .two i ri j rj => (Region.ready md ops listed == [i, j]) && ordOk md ops last (listed.setIfInBounds i true) ri && ordOk md ops last (listed.setIfInBounds j true) rj
  | listed, .three i ri j rj k rk => (Region.ready md ops listed == [i, j, k]) && ordOk md ops last (listed.setIfInBounds i true) ri && ordOk md ops last (listed.setIfInBounds j true) rj && ordOk md ops last (listed.setIfInBounds k true) rk
theorem wpAnyR_fuel : ∀ (f g : Nat) (listed : Array Bool) (a : Act) (w : World), f ≤ g → wpAnyR P md ops Q S last f listed a w → wpAnyR P md ops Q S last g listed a w
  | 0, 0, _, _, _, _, h => h
  | 0, g + 1, listed, a, w, _, h => ⟨fun _ => h.2, fun i hi => by rw [h.1] at hi; cases hi⟩
  | f + 1, g + 1, listed, a, w, hfg, h => ⟨h.1, fun i hi => wpOp_mono (fun a' w' h' => ⟨h'.1, wpAnyR_fuel f g _ a' w' (by omega) h'.2⟩) (h.2 i hi)⟩
theorem wpAnyR_of_ord (hl : lastB md ops last = true) (hs : Region.noSelect ops = true) (hQ : ∀ c a d v w, Q (.panic c) (a.put (some d) v) w → Q (.panic c) a w) :
    ∀ (ord : Ord) (listed : Array Bool) (a : Act) (w : World), Closed md ops listed → ordOk md ops last listed ord = true → wpOrd P ops Q S last ord a w → wpAnyR P md ops Q S last ord.depth listed a w
  | .nil, listed, a, w, hcl, ho, h => by
    simp only [ordOk, List.isEmpty_iff] at ho
    exact ⟨ho, h⟩
  | .val i r, listed, a, w, hcl, ho, h => by
    simp only [ordOk, Bool.and_eq_true] at ho
    obtain ⟨⟨⟨h1, h2⟩, h3⟩, h4⟩ := ho
    obtain ⟨o, v, hi, hy, hS, hr⟩ := h
    have hne : i ≠ last := fun e => by subst e; simp at h3
    refine wpAnyR_first hl hi hne (Region.noSelect_spec hs) (fun c a w hq => ?_) r.depth listed a w (Region.free_spec hi h2) hcl (by simpa using h1) hy hS (wpAnyR_of_ord hl hs hQ r _ _ w (hcl.set (by simpa using h1)) h4 hr)
    cases hd : o.dst with
    | none => rw [hd] at hq; exact hq
    | some d => rw [hd] at hq; exact hQ _ _ _ _ _ hq
  | .eff i r, listed, a, w, hcl, ho, h => by
    simp only [ordOk, Bool.and_eq_true, beq_iff_eq] at ho
    obtain ⟨h1, h2⟩ := ho
    refine ⟨fun h0 => (by rw [h0] at h1; cases h1), fun j hj => ?_⟩
    have hj0 := hj
    rw [h1] at hj
    obtain rfl : j = i := by simpa using hj
    exact wpOp_mono (fun a' w' h' => ⟨h'.1, wpAnyR_of_ord hl hs hQ r _ a' w' (hcl.set hj0) h2 h'.2⟩) h
  | .two i ri j rj, listed, a, w, hcl, ho, h => by
    simp only [ordOk, Bool.and_eq_true, beq_iff_eq] at ho
    obtain ⟨⟨h1, h2⟩, h3⟩ := ho
    refine ⟨fun h0 => (by rw [h0] at h1; cases h1), fun k hk => ?_⟩
    have hk0 := hk
    rw [h1] at hk
    simp only [List.mem_cons, List.not_mem_nil, or_false] at hk
    rcases hk with rfl | rfl
    · exact wpOp_mono (fun a' w' h' => ⟨h'.1, wpAnyR_fuel _ _ _ _ _ (Nat.le_max_left _ _) (wpAnyR_of_ord hl hs hQ ri _ a' w' (hcl.set hk0) h2 h'.2)⟩) h.1
    · exact wpOp_mono (fun a' w' h' => ⟨h'.1, wpAnyR_fuel _ _ _ _ _ (Nat.le_max_right _ _) (wpAnyR_of_ord hl hs hQ rj _ a' w' (hcl.set hk0) h3 h'.2)⟩) h.2
  | .three i ri j rj k rk, listed, a, w, hcl, ho, h => by
    simp only [ordOk, Bool.and_eq_true, beq_iff_eq] at ho
    obtain ⟨⟨⟨h1, h2⟩, h3⟩, h4⟩ := ho
    refine ⟨fun h0 => (by rw [h0] at h1; cases h1), fun q hq => ?_⟩
    have hq0 := hq
    rw [h1] at hq
    simp only [List.mem_cons, List.not_mem_nil, or_false] at hq
    rcases hq with rfl | rfl | rfl
    · exact wpOp_mono (fun a' w' h' => ⟨h'.1, wpAnyR_fuel _ _ _ _ _ (Nat.le_max_left _ _) (wpAnyR_of_ord hl hs hQ ri _ a' w' (hcl.set hq0) h2 h'.2)⟩) h.1
    · exact wpOp_mono (fun a' w' h' => ⟨h'.1, wpAnyR_fuel _ _ _ _ _ (Nat.le_trans (Nat.le_max_left _ _) (Nat.le_max_right _ _)) (wpAnyR_of_ord hl hs hQ rj _ a' w' (hcl.set hq0) h3 h'.2)⟩) h.2.1
    · exact wpOp_mono (fun a' w' h' => ⟨h'.1, wpAnyR_fuel _ _ _ _ _ (Nat.le_trans (Nat.le_max_right _ _) (Nat.le_max_right _ _)) (wpAnyR_of_ord hl hs hQ rk _ a' w' (hcl.set hq0) h4 h'.2)⟩) h.2.2
theorem wpAny_fuel : ∀ (f g : Nat) (listed : Array Bool) (a : Act) (w : World), f ≤ g → wpAny P md ops Q f listed a w → wpAny P md ops Q g listed a w
  | 0, 0, _, _, _, _, h => h
  | 0, g + 1, listed, a, w, _, h => ⟨fun _ => h.2, fun i hi => by rw [h.1] at hi; cases hi⟩
  | f + 1, g + 1, listed, a, w, hfg, h => ⟨h.1, fun i hi => wpOp_mono (fun a' w' h' => wpAny_fuel f g _ a' w' (by omega) h') (h.2 i hi)⟩
end order
section draw
variable {P : Program} {E : World} {n : Nat} {m : List (Nat × Value)} {L L0 : List Ch} {Q : Exit → Act → World → Prop} {ops : Array Oper} {last : Nat} {r : Ord} {o : Oper} {d : Nat}
/-- A region that draws its order: in an order of our own, 'ord'; L0: the pieces that its operations read. -/
theorem pk_draw {id : Nat} (ord : Ord) (last : Nat) (L0 : List Ch) (hm : P.follows .mixedOrders = true) (hok : (Region.noSelect ops && lastB .any ops last && ordOk .any ops last (Array.replicate ops.size false) ord && Nat.ble ord.depth ops.size) = true)
    (hQ : ∀ c a d v w, Q (.panic c) (a.put (some d) v) w → Q (.panic c) a w) (k : Pk E n m L (wpOrd P ops Q (fun w => Sat E w L0) last ord)) : Pk E n m L ((Code.region id ops true).wp P Q) := fun a w f s => by
  simp only [Bool.and_eq_true] at hok
  obtain ⟨⟨⟨h1, h2⟩, h3⟩, h4⟩ := hok
  refine wp_region_any hm ?_
  exact wpAny_fuel _ _ _ _ _ (Nat.le_of_ble_eq_true h4) (wpAny_of_R _ _ _ _ (wpAnyR_of_ord h2 h1 hQ ord _ a _ Closed.start h3 (k a _ f s.drew)))
theorem pk_drawk {id : Nat} (ord : Ord) (last : Nat) (bs : List Bool) (hm : P.follows .mixedOrders = true) (hok : (Region.noSelect ops && lastB .any ops last && ordOk .any ops last (Array.replicate ops.size false) ord && Nat.ble ord.depth ops.size) = true)
    (hQ : ∀ c a d v w, Q (.panic c) (a.put (some d) v) w → Q (.panic c) a w) (k : Pk E n m L (wpOrd P ops Q (fun w => Sat E w (keepL bs L)) last ord)) : Pk E n m L ((Code.region id ops true).wp P Q) := pk_draw ord last _ hm hok hQ k
theorem ord_nil {S : World → Prop} (k : Pk E n m L (Q .normal)) : Pk E n m L (wpOrd P ops Q S last .nil) := k
theorem ord_two {i j : Nat} {ri rj : Ord} {S : World → Prop} (k1 : Pk E n m L (wpOrd P ops Q S last (.eff i ri))) (k2 : Pk E n m L (wpOrd P ops Q S last (.eff j rj))) : Pk E n m L (wpOrd P ops Q S last (.two i ri j rj)) := fun a w f s => ⟨k1 a w f s, k2 a w f s⟩
theorem ord_three {i j k : Nat} {ri rj rk : Ord} {S : World → Prop} (k1 : Pk E n m L (wpOrd P ops Q S last (.eff i ri))) (k2 : Pk E n m L (wpOrd P ops Q S last (.eff j rj))) (k3 : Pk E n m L (wpOrd P ops Q S last (.eff k rk))) : Pk E n m L (wpOrd P ops Q S last (.three i ri j rj k rk)) := fun a w f s => ⟨k1 a w f s, k2 a w f s, k3 a w f s⟩
theorem ord_val {i : Nat} {v : Value} (ho : ops[i]? = some o) (hg : o.guard = none) (hd : o.dst = some d) (hn : Nat.blt d n = true) (h0 : ∀ h, Sats L h → Sats L0 h) (hv : Val P m L0 o v)
    (k : Pk E n ((d, v) :: m) L (wpOrd P ops Q (fun w => Sat E w L0) last r)) : Pk E n m L (wpOrd P ops Q (fun w => Sat E w L0) last (.val i r)) := fun a w f s => by
  refine ⟨o, v, ho, .inl ⟨by simp [Region.wanted, hg], fun w s => hv a w f.Evs s.heap⟩, s.to h0, ?_⟩
  rw [hd]
  exact k _ _ (f.put d v (by simpa using hn)) s
theorem ord_val_yes {i j t : Nat} {b : Bool} {v : Value} (ho : ops[i]? = some o) (hg : o.guard = some (j, b)) (ht : (ops[j]?).bind (·.dst) = some t) (hb : ev m (.tmp t) = some (.bool b)) (hd : o.dst = some d) (hn : Nat.blt d n = true) (h0 : ∀ h, Sats L h → Sats L0 h) (hv : Val P m L0 o v)
    (k : Pk E n ((d, v) :: m) L (wpOrd P ops Q (fun w => Sat E w L0) last r)) : Pk E n m L (wpOrd P ops Q (fun w => Sat E w L0) last (.val i r)) := fun a w f s => by
  refine ⟨o, v, ho, .inl ⟨by have := f.tmp hb; simp [Region.wanted, hg, yielded, ht, this], fun w s => hv a w f.Evs s.heap⟩, s.to h0, ?_⟩
  rw [hd]
  exact k _ _ (f.put d v (by simpa using hn)) s
theorem ord_val_no {i j t : Nat} {b c : Bool} (ho : ops[i]? = some o) (hg : o.guard = some (j, b)) (ht : (ops[j]?).bind (·.dst) = some t) (hb : ev m (.tmp t) = some (.bool c)) (hne : (c == b) = false) (hd : o.dst = some d) (hn : Nat.blt d n = true) (h0 : ∀ h, Sats L h → Sats L0 h)
    (k : Pk E n ((d, undef) :: m) L (wpOrd P ops Q (fun w => Sat E w L0) last r)) : Pk E n m L (wpOrd P ops Q (fun w => Sat E w L0) last (.val i r)) := fun a w f s => by
  refine ⟨o, undef, ho, .inr ⟨by have := f.tmp hb; simp [Region.wanted, hg, yielded, ht, this, hne], rfl⟩, s.to h0, ?_⟩
  rw [hd]
  exact k _ _ (f.put d undef (by simpa using hn)) s
theorem ord_val_un {i j t : Nat} {b : Bool} (ho : ops[i]? = some o) (hg : o.guard = some (j, b)) (ht : (ops[j]?).bind (·.dst) = some t) (hb : ev m (.tmp t) = some undef) (hd : o.dst = some d) (hn : Nat.blt d n = true) (h0 : ∀ h, Sats L h → Sats L0 h)
    (k : Pk E n ((d, undef) :: m) L (wpOrd P ops Q (fun w => Sat E w L0) last r)) : Pk E n m L (wpOrd P ops Q (fun w => Sat E w L0) last (.val i r)) := fun a w f s => by
  refine ⟨o, undef, ho, .inr ⟨by have := f.tmp hb; simp [Region.wanted, hg, yielded, ht, this, undef], rfl⟩, s.to h0, ?_⟩
  rw [hd]
  exact k _ _ (f.put d undef (by simpa using hn)) s
theorem ord_eff_un {i j t : Nat} {b : Bool} (ho : ops[i]? = some o) (hg : o.guard = some (j, b)) (ht : (ops[j]?).bind (·.dst) = some t) (hb : ev m (.tmp t) = some undef) (hd : o.dst = some d) (hn : Nat.blt d n = true) (h0 : ∀ h, Sats L h → Sats L0 h)
    (k : Pk E n ((d, undef) :: m) L (wpOrd P ops Q (fun w => Sat E w L0) last r)) : Pk E n m L (wpOrd P ops Q (fun w => Sat E w L0) last (.eff i r)) := fun a w f s => by
  show wpOp P ops Q i _ a w
  unfold wpOp
  simp only [ho]
  rw [if_neg (by have := f.tmp hb; simp [Region.wanted, hg, yielded, ht, this, undef])]
  refine ⟨.inr (s.to h0), ?_⟩
  rw [hd]
  exact k _ _ (f.put d _ (by simpa using hn)) s
theorem ord_eff {i : Nat} {α : Type} {V : α → Value} {M : α → List Ch} {p : α → Prop} (he : Eff P m L o V M p) (ho : ops[i]? = some o) (hg : o.guard = none) (hd : o.dst = some d) (hn : Nat.blt d n = true)
    (h0 : i = last ∨ ∀ x, p x → ∀ h, Sats (M x) h → Sats L0 h)
    (k : ∀ x, p x → Pk E n ((d, V x) :: m) (M x) (wpOrd P ops Q (fun w => Sat E w L0) last r)) : Pk E n m L (wpOrd P ops Q (fun w => Sat E w L0) last (.eff i r)) := fun a w f s => by
  show wpOp P ops Q i _ a w
  unfold wpOp
  simp only [ho]
  rw [if_pos (by simp [Region.wanted, hg])]
  refine .inl (he.wp f.Evs s fun x w' hx s' => ⟨h0.imp id fun h => s'.to (h x hx), ?_⟩)
  rw [hd]
  exact k x hx _ _ (f.put d _ (by simpa using hn)) s'
theorem ord_eff_yes {i j t : Nat} {b : Bool} {α : Type} {V : α → Value} {M : α → List Ch} {p : α → Prop} (he : Eff P m L o V M p) (ho : ops[i]? = some o) (hg : o.guard = some (j, b)) (ht : (ops[j]?).bind (·.dst) = some t) (hb : ev m (.tmp t) = some (.bool b)) (hd : o.dst = some d) (hn : Nat.blt d n = true)
    (h0 : i = last ∨ ∀ x, p x → ∀ h, Sats (M x) h → Sats L0 h)
    (k : ∀ x, p x → Pk E n ((d, V x) :: m) (M x) (wpOrd P ops Q (fun w => Sat E w L0) last r)) : Pk E n m L (wpOrd P ops Q (fun w => Sat E w L0) last (.eff i r)) := fun a w f s => by
  show wpOp P ops Q i _ a w
  unfold wpOp
  simp only [ho]
  rw [if_pos (by have := f.tmp hb; simp [Region.wanted, hg, yielded, ht, this])]
  refine .inl (he.wp f.Evs s fun x w' hx s' => ⟨h0.imp id fun h => s'.to (h x hx), ?_⟩)
  rw [hd]
  exact k x hx _ _ (f.put d _ (by simpa using hn)) s'
theorem ord_eff_no {i j t : Nat} {b c : Bool} (ho : ops[i]? = some o) (hg : o.guard = some (j, b)) (ht : (ops[j]?).bind (·.dst) = some t) (hb : ev m (.tmp t) = some (.bool c)) (hne : (c == b) = false) (hd : o.dst = some d) (hn : Nat.blt d n = true) (h0 : ∀ h, Sats L h → Sats L0 h)
    (k : Pk E n ((d, undef) :: m) L (wpOrd P ops Q (fun w => Sat E w L0) last r)) : Pk E n m L (wpOrd P ops Q (fun w => Sat E w L0) last (.eff i r)) := fun a w f s => by
  show wpOp P ops Q i _ a w
  unfold wpOp
  simp only [ho]
  rw [if_neg (by have := f.tmp hb; simp [Region.wanted, hg, yielded, ht, this]; simpa using hne)]
  refine ⟨.inr (s.to h0), ?_⟩
  rw [hd]
  exact k _ _ (f.put d _ (by simpa using hn)) s
theorem ord_eff0 {i : Nat} {α : Type} {V : α → Value} {M : α → List Ch} {p : α → Prop} (he : Eff P m L o V M p) (ho : ops[i]? = some o) (hg : o.guard = none) (hd : o.dst = none)
    (h0 : i = last ∨ ∀ x, p x → ∀ h, Sats (M x) h → Sats L0 h)
    (k : ∀ x, p x → Pk E n m (M x) (wpOrd P ops Q (fun w => Sat E w L0) last r)) : Pk E n m L (wpOrd P ops Q (fun w => Sat E w L0) last (.eff i r)) := fun a w f s => by
  show wpOp P ops Q i _ a w
  unfold wpOp
  simp only [ho]
  rw [if_pos (by simp [Region.wanted, hg])]
  refine .inl (he.wp f.Evs s fun x w' hx s' => ⟨h0.imp id fun h => s'.to (h x hx), ?_⟩)
  rw [hd]
  exact k x hx _ _ f s'
end draw

/-! ### Calls -/
/-- function f has a body of its own -/
def Callable (P : Program) (f : FuncId) : Prop := ∃ fn, P.funcs[f]? = some fn ∧ (fn.name == "runtime.NumGoroutine") = false ∧ fn.body.isNone = false
theorem run_callFunc {P : Program} {f : FuncId} (h : Callable P f) (args : Array Value) (w : World) : (callFunc f args).run P w = .ok (.enter f args) w := by
  obtain ⟨fn, h1, h2, h3⟩ := h
  simp only [callFunc]
  have h2' : ¬ fn.name = "runtime.NumGoroutine" := by simpa using h2
  simp [h1, h2']
  intro hn
  simp [hn] at h3
section calls
variable {P : Program} {m : List (Nat × Value)} {L : List Ch} {o : Oper}
theorem evs_array {a : Act} (f : Evs a m) {xs : Array Operand} {vs : List Value} (h : evs m xs.toList = some vs) : xs.map a.eval = vs.toArray := by
  have key : ∀ {xs : List Operand} {vs : List Value}, evs m xs = some vs → xs.map a.eval = vs := by
    intro xs
    induction xs with
    | nil => intro vs h; simp [evs] at h; simp [h]
    | cons x xs ih =>
      intro vs h
      unfold evs at h
      split at h
      · rename_i v us e1 e2
        simp at h; subst h
        simp [f _ _ e1, ih e2]
      · cases h
  apply Array.ext'
  simp [key h]
/-- a call of a function by its contract -/
theorem eff_call {g : FuncId} {xs : Array Operand} {ts : Array TypeId} {vs : List Value} {α : Type} {V : α → Value} {M : α → List Ch} {p : α → Prop} (ho : o.op = .call { callee := .value (.func g), args := xs, argTypes := ts }) (hg : Callable P g)
    (hxs : evs m xs.toList = some vs) (hc : ∀ E w, Sat E w L → Calls P g vs.toArray w fun e w' => ∃ x, p x ∧ e = .returned (V x) ∧ Sat E w' (M x)) : Eff P m L o V M p := fun E a w f s => by
  refine .inr ⟨g, vs.toArray, ?_, hc E w s⟩
  have e := evs_array f hxs
  simp [execOp, ho, resolve, Act.eval, Deferred.ofValue, invoke, e, run_callFunc hg]
/-- a call of a function value -/
theorem eff_callv {y : Operand} {g : FuncId} {cap : Array Value} {xs : Array Operand} {ts : Array TypeId} {vs : List Value} {α : Type} {V : α → Value} {M : α → List Ch} {p : α → Prop} (ho : o.op = .call { callee := .value y, args := xs, argTypes := ts }) (hy : ev m y = some (.func (.func g) #[] cap)) (hg : Callable P g)
    (hxs : evs m xs.toList = some vs) (hc : ∀ E w, Sat E w L → Calls P g (vs.toArray ++ cap) w fun e w' => ∃ x, p x ∧ e = .returned (V x) ∧ Sat E w' (M x)) : Eff P m L o V M p := fun E a w f s => by
  refine .inr ⟨g, vs.toArray ++ cap, ?_, hc E w s⟩
  have e := evs_array f hxs
  simp [execOp, ho, resolve, f _ _ hy, Deferred.ofValue, invoke, e, run_callFunc hg]
end calls

/-! ### A function's beginning and end -/
def argsm : List Value → Nat → List (Nat × Value)
  | [], _ => []
  | v :: vs, i => (i, v) :: argsm vs (i + 1)
theorem look_argsm : ∀ (vs : List Value) (j i : Nat) (v : Value), look (argsm vs j) i = some v → j ≤ i ∧ vs[i - j]? = some v
  | [], _, _, _, h => by cases h
  | u :: vs, j, i, v, h => by
    unfold argsm look at h
    cases b : Nat.beq i j with
    | true =>
      have : i = j := Nat.eq_of_beq_eq_true b
      subst this
      simp [b] at h; subst h
      simp
    | false =>
      simp [b] at h
      obtain ⟨h1, h2⟩ := look_argsm vs (j + 1) i v h
      have : i - j = (i - (j + 1)) + 1 := by omega
      exact ⟨by omega, by rw [this]; simpa using h2⟩
section ends
variable {P : Program} {E : World} {n : Nat} {m : List (Nat × Value)} {L : List Ch} {R : Ending → World → Prop} {fn : Func}
theorem enter {f : FuncId} {c : Code} {vs : List Value} {w : World} (hf : P.funcs[f]? = some fn) (hb : fn.body = some c) (hn : fn.ntmps = n) (ha : (Nat.ble vs.length n && Nat.ble n 65536) = true) (s : Sat E w L)
    (k : Pk E n (argsm vs 0) L (c.wp P (bodyPost P fn R))) : Calls P f vs.toArray w R := by
  rw [Bool.and_eq_true] at ha
  have hsp : look (argsm vs 0) 65536 = none := by
    cases e : look (argsm vs 0) 65536 with
    | none => rfl
    | some v =>
      obtain ⟨_, h2⟩ := look_argsm vs 0 _ v e
      have h3 := (List.getElem?_eq_some_iff.1 h2).1
      have h4 := Nat.le_of_ble_eq_true ha.1
      have h5 := Nat.le_of_ble_eq_true ha.2
      omega
  refine calls_of_wp hf hb (k _ _ ⟨by rw [hsp]; rfl, by have := Nat.le_of_ble_eq_true ha.1; simp [hn]; omega, Nat.le_of_ble_eq_true ha.2, fun i v _ h => ?_⟩ s)
  obtain ⟨_, h2⟩ := look_argsm vs 0 i v h
  simp only [Nat.sub_zero] at h2
  have : i < vs.length := (List.getElem?_eq_some_iff.1 h2).1
  simp [Array.getElem?_append, this, (List.getElem?_eq_some_iff.1 h2).2]
theorem ret1 {t : Tmp} {v : Value} (hr : fn.results = #[.tmp t]) (h : ev m (.tmp t) = some v) (k : ∀ w, Sat E w L → R (.returned v) w) (hdf : dfl (look m 65536) = [] := by rfl) : Pk E n m L (bodyPost P fn R .ret) := fun a w f s => by
  refine bodyPost_ret (results_tmp hr _ _ _) (f.defers.trans hdf) ?_
  have := f.tmp h
  simp only [Array.getD_eq_getD_getElem?, this, Option.getD_some]
  exact k w s
theorem ret2 {t u : Tmp} {v v' : Value} (hr : fn.results = #[.tmp t, .tmp u]) (h : ev m (.tmp t) = some v) (h' : ev m (.tmp u) = some v') (k : ∀ w, Sat E w L → R (.returned (.tuple #[v, v'])) w) (hdf : dfl (look m 65536) = [] := by rfl) : Pk E n m L (bodyPost P fn R .ret) := fun a w f s => by
  refine bodyPost_ret (results_tmp2 hr _ _ _) (f.defers.trans hdf) ?_
  have h1 := f.tmp h
  have h2 := f.tmp h'
  simp only [Array.getD_eq_getD_getElem?, h1, h2, Option.getD_some]
  exact k w s
theorem ret3 {t u x : Tmp} {v v' v'' : Value} (hr : fn.results = #[.tmp t, .tmp u, .tmp x]) (h : ev m (.tmp t) = some v) (h' : ev m (.tmp u) = some v') (h'' : ev m (.tmp x) = some v'') (k : ∀ w, Sat E w L → R (.returned (.tuple #[v, v', v''])) w) (hdf : dfl (look m 65536) = [] := by rfl) : Pk E n m L (bodyPost P fn R .ret) := fun a w f s => by
  have h1 := f.tmp h
  have h2 := f.tmp h'
  have h3 := f.tmp h''
  refine bodyPost_ret (v := .tuple #[v, v', v'']) ?_ (f.defers.trans hdf) (k w s)
  simp [results, hr, h1, h2, h3]
/-- no results -/
theorem ret0 (hr : fn.results = #[]) (k : ∀ w, Sat E w L → R (.returned (.tuple #[])) w) (hdf : dfl (look m 65536) = [] := by rfl) : Pk E n m L (bodyPost P fn R .ret) := fun a w f s => bodyPost_ret (results_none hr _ _ _) (f.defers.trans hdf) (k w s)
theorem end0 (hr : fn.results = #[]) (k : ∀ w, Sat E w L → R (.returned (.tuple #[])) w) (hdf : dfl (look m 65536) = [] := by rfl) : Pk E n m L (bodyPost P fn R .normal) := fun a w f s => bodyPost_end (results_none hr _ _ _) (f.defers.trans hdf) (k w s)
/-- one result, a struct -/
theorem ret1c {t : Tmp} {ty : TypeId} {A : Option Addr} {vs : List Value} {dt : TypeDesc} (hr : fn.results = #[.cell t ty]) (ht : P.underlying ty = some dt) (hs : (match dt with | .struct _ | .array _ _ => true | _ => false) = true)
    (hz : (P.info? ty).map (fun i => i.size) = some vs.length) (h : ev m (.tmp t) = some (ptr A 0)) (hA : Ent L fun _ => A.isSome = true) (hv : Ent L (RdL A vs)) (k : ∀ w, Sat E w L → R (.returned (.agg vs.toArray)) w) (hdf : dfl (look m 65536) = [] := by rfl) : Pk E n m L (bodyPost P fn R .ret) := fun a w f s => by
  obtain ⟨b, rfl⟩ := Option.isSome_iff_exists.1 (hA _ s.heap)
  have h1 := f.tmp h
  obtain ⟨info, e4, e5⟩ := Option.map_eq_some_iff.1 hz
  have hl := run_loadCells_list (P := P) w b vs fun j v e => by
    obtain ⟨a', ha, hc⟩ := hv _ s.heap j v e
    cases ha
    exact hc
  refine bodyPost_ret (v := .agg vs.toArray) ?_ (f.defers.trans hdf) (k w s)
  simp [results, hr, h1, ptr, asAddr, loadVar, run_isAgg_yes ht hs, sizeOf, typeInfo, e4, e5, hl]
/-- two results, the first one a struct -/
theorem ret2c {t u : Tmp} {ty : TypeId} {A : Option Addr} {vs : List Value} {v' : Value} {dt : TypeDesc} (hr : fn.results = #[.cell t ty, .tmp u]) (ht : P.underlying ty = some dt) (hs : (match dt with | .struct _ | .array _ _ => true | _ => false) = true)
    (hz : (P.info? ty).map (fun i => i.size) = some vs.length) (h : ev m (.tmp t) = some (ptr A 0)) (h' : ev m (.tmp u) = some v') (hA : Ent L fun _ => A.isSome = true) (hv : Ent L (RdL A vs)) (k : ∀ w, Sat E w L → R (.returned (.tuple #[.agg vs.toArray, v'])) w) (hdf : dfl (look m 65536) = [] := by rfl) : Pk E n m L (bodyPost P fn R .ret) := fun a w f s => by
  obtain ⟨b, rfl⟩ := Option.isSome_iff_exists.1 (hA _ s.heap)
  have h1 := f.tmp h
  have h2 := f.tmp h'
  obtain ⟨info, e4, e5⟩ := Option.map_eq_some_iff.1 hz
  have hl := run_loadCells_list (P := P) w b vs fun j v e => by
    obtain ⟨a', ha, hc⟩ := hv _ s.heap j v e
    cases ha
    exact hc
  refine bodyPost_ret (v := .tuple #[.agg vs.toArray, v']) ?_ (f.defers.trans hdf) (k w s)
  simp [results, hr, h1, h2, ptr, asAddr, loadVar, run_isAgg_yes ht hs, sizeOf, typeInfo, e4, e5, hl]
/-- the end of a loop's round -/
theorem pk_next {α : Type} {I : α → List (Nat × Value)} {H : α → List Ch} {p : α → Prop} {μ : α → Nat} {x : α} (y : α) (hy : p y) (hμ : μ y < μ x) (hm : SubD m (I y)) (hL : ∀ h, Sats L h → Sats (H y) h) :
    Pk E n m L (fun a w => ∃ y, p y ∧ μ y < μ x ∧ Fr n a (I y) ∧ Sat E w (H y)) := fun a w f s => ⟨y, hy, hμ, f.sub hm, s.to hL⟩
theorem pk_fin {α : Type} {I : α → List (Nat × Value)} {H : α → List Ch} {p : α → Prop} (y : α) (hy : p y) (hm : SubD m (I y)) (hL : ∀ h, Sats L h → Sats (H y) h) :
    Pk E n m L (fun a w => ∃ y, p y ∧ Fr n a (I y) ∧ Sat E w (H y)) := fun a w f s => ⟨y, hy, f.sub hm, s.to hL⟩
end ends
section joins
variable {P : Program} {E : World} {n : Nat} {m : List (Nat × Value)} {L : List Ch} {Q : Exit → Act → World → Prop} {X : Act → World → Prop}
/-- what holds between two pieces of code -/
theorem pk_cut {x y : Code} {α : Type} (I : α → List (Nat × Value)) (H : α → List Ch) (p : α → Prop) (k1 : Pk E n m L (x.wp P (Exit.then (fun a w => ∃ y, p y ∧ Fr n a (I y) ∧ Sat E w (H y)) Q))) (k2 : ∀ z, p z → Pk E n (I z) (H z) (y.wp P Q)) : Pk E n m L ((Code.seq x y).wp P Q) := fun a w f s => by
  refine wp_seq (Code.wp_mono ?_ (k1 a w f s))
  intro e a' w' h
  cases e <;> first | exact h | skip
  obtain ⟨z, hz, fz, sz⟩ := h
  exact k2 z hz a' w' fz sz
theorem thru_on (k : Pk E n m L X) : Pk E n m L (Exit.then X Q .normal) := k
theorem thru {i : Nat} (k : Pk E n m L (Q (.exit i))) : Pk E n m L (Exit.then X Q (.exit i)) := k
theorem thru_ret (k : Pk E n m L (Q .ret)) : Pk E n m L (Exit.then X Q .ret) := k
theorem in_on {i : Nat} (k : Pk E n m L (Q .normal)) : Pk E n m L (Exit.inBlock i Q .normal) := k
theorem in_ret {i : Nat} (k : Pk E n m L (Q .ret)) : Pk E n m L (Exit.inBlock i Q .ret) := k
/-- both ways of a test whose slot holds '!b' -/
theorem pk_ifn {c : Operand} {x y : Code} {b : Bool} (hc : ev m c = some (.bool (!b))) (kt : b = false → Pk E n m L (x.wp P Q)) (kf : b = true → Pk E n m L (y.wp P Q)) : Pk E n m L ((Code.cond c x y).wp P Q) := by
  cases b
  · exact pk_cond_t hc (kt rfl)
  · exact pk_cond_f hc (kf rfl)
end joins
end Go.Proofs.Eng
