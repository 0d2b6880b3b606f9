/- The engine, part 1: owned pieces of memory, frames as lists, and the rules by which a function's code is walked. Nothing here speaks of one program. -/
import Derived.OrdersHeld
import Derived.Deep.Draws
import Derived.Deep.LoopGhost
import Derived.Laws.AppendOwn
import Derived.Laws.OwnMore
import Derived.Laws.Build
import Derived.Below
import Derived.WideMake
import Derived.WalkKit
set_option linter.unusedVariables false
set_option linter.unusedSimpArgs false
namespace Go.Proofs.Eng
open Go.RowKit

/-! ### Pieces of memory -/
/-- What blocks hold. -/
abbrev Hp := Nat → Option Obj
def Le (h h' : Hp) : Prop := ∀ b o, h b = some o → h' b = some o
theorem Le.refl (h : Hp) : Le h h := fun _ _ e => e
theorem Le.trans {a b c : Hp} (h : Le a b) (k : Le b c) : Le a c := fun x o e => k x o (h x o e)
abbrev Ch := Hp → Prop
/-- The pieces lie apart from one another. -/
def Sats : List Ch → Hp → Prop
  | [], _ => True
  | c :: L, h => ∃ h1 h2 : Hp, Le h1 h ∧ Le h2 h ∧ (∀ b, h1 b = none ∨ h2 b = none) ∧ c h1 ∧ Sats L h2
def hp (w : World) : Hp := fun b => w.heap[b]?
theorem Sats.mono : ∀ {L : List Ch} {h h' : Hp}, Sats L h → Le h h' → Sats L h'
  | [], _, _, _, _ => trivial
  | _ :: _, _, _, ⟨h1, h2, a, b, d, p, q⟩, k => ⟨h1, h2, a.trans k, b.trans k, d, p, q⟩
theorem Sats.tail {c : Ch} {L : List Ch} {h : Hp} (s : Sats (c :: L) h) : Sats L h := by
  obtain ⟨h1, h2, a, b, d, p, q⟩ := s
  exact q.mono b
theorem Sats.nil (h : Hp) : Sats [] h := trivial
/-- The union of two parts that lie apart. -/
def join (h1 h2 : Hp) : Hp := fun b => match h1 b with | some o => some o | none => h2 b
theorem join_left (h1 h2 : Hp) : Le h1 (join h1 h2) := fun b o e => by simp [join, e]
theorem join_right {h1 h2 : Hp} (d : ∀ b, h1 b = none ∨ h2 b = none) : Le h2 (join h1 h2) := fun b o e => by
  rcases d b with k | k
  · simp [join, k, e]
  · rw [k] at e; cases e
theorem join_le {h1 h2 h : Hp} (a : Le h1 h) (b : Le h2 h) : Le (join h1 h2) h := fun x o e => by
  unfold join at e
  cases k : h1 x with
  | some o' => rw [k] at e; cases e; exact a x _ k
  | none => rw [k] at e; exact b x o e
theorem join_none {h1 h2 : Hp} {b : Nat} (a : h1 b = none) (c : h2 b = none) : join h1 h2 b = none := by simp [join, a, c]
theorem le_none {h1 h : Hp} (a : Le h1 h) {b : Nat} (k : h b = none) : h1 b = none := by
  cases e : h1 b with
  | none => rfl
  | some o => rw [a b o e] at k; cases k
/-- the second piece comes first -/
theorem Sats.swap {c d : Ch} {L : List Ch} {h : Hp} (s : Sats (c :: d :: L) h) : Sats (d :: c :: L) h := by
  obtain ⟨h1, h2, a, b, e, p, g1, g2, x, y, z, q, r⟩ := s
  refine ⟨g1, join h1 g2, x.trans b, join_le a (y.trans b), fun k => ?_, q, h1, g2, join_left _ _, ?_, ?_, p, r⟩
  · rcases e k with u | u
    · rcases z k with v | v
      · exact .inl v
      · exact .inr (join_none u v)
    · exact .inl (le_none x u)
  · refine join_right fun k => ?_
    rcases e k with u | u
    · exact .inl u
    · exact .inr (le_none y u)
  · intro k
    rcases e k with u | u
    · exact .inl u
    · exact .inr (le_none y u)
theorem Sats.under {c : Ch} {L M : List Ch} {h : Hp} (f : ∀ h, Sats L h → Sats M h) (s : Sats (c :: L) h) : Sats (c :: M) h := by
  obtain ⟨h1, h2, a, b, e, p, q⟩ := s
  exact ⟨h1, h2, a, b, e, p, f _ q⟩
theorem Sats.head {c d : Ch} {L : List Ch} {h : Hp} (f : ∀ h, c h → d h) (s : Sats (c :: L) h) : Sats (d :: L) h := by
  obtain ⟨h1, h2, a, b, e, p, q⟩ := s
  exact ⟨h1, h2, a, b, e, f _ p, q⟩
/-- piece number i comes first -/
theorem Sats.pull : ∀ (i : Nat) {L : List Ch} {c : Ch} {h : Hp}, L[i]? = some c → Sats L h → Sats (c :: L.eraseIdx i) h
  | _, [], _, _, e, _ => by simp at e
  | 0, d :: L, c, h, e, s => by simp at e; subst e; simpa using s
  | i + 1, d :: L, c, h, e, s => by
    simp at e
    have := Sats.under (fun h q => Sats.pull i e q) s
    simpa using Sats.swap this
/-- the first piece goes to place i -/
theorem Sats.push : ∀ (i : Nat) {L : List Ch} {c d : Ch} {h : Hp}, L[i]? = some d → Sats (c :: L.eraseIdx i) h → Sats (L.set i c) h
  | _, [], _, _, _, e, _ => by simp at e
  | 0, d :: L, c, _, h, e, s => by simpa using s
  | i + 1, d :: L, c, x, h, e, s => by
    simp at e
    simp only [List.eraseIdx_cons_succ, List.set_cons_succ] at s ⊢
    exact Sats.under (fun h q => Sats.push i e q) (Sats.swap s)
/-- Many pieces as one. -/
def cat (L : List Ch) : Ch := Sats L
theorem Sats.cat_open {A L : List Ch} {h : Hp} (s : Sats (cat A :: L) h) : Sats (A ++ L) h := by
  induction A generalizing L h with
  | nil => exact s.tail
  | cons c A ih =>
    obtain ⟨h1, h2, a, b, e, ⟨g1, g2, x, y, z, p, q⟩, r⟩ := s
    refine ⟨g1, join g2 h2, x.trans a, join_le (y.trans a) b, fun k => ?_, p, ih ⟨g2, h2, join_left _ _, ?_, ?_, q, r⟩⟩
    · rcases z k with u | u
      · exact .inl u
      · rcases e k with v | v
        · exact .inl (le_none x v)
        · exact .inr (join_none u v)
    · exact join_right fun k => (e k).imp (fun v => le_none y v) id
    · exact fun k => (e k).imp (fun v => le_none y v) id
theorem Sats.cat_shut {A L : List Ch} {h : Hp} (s : Sats (A ++ L) h) : Sats (cat A :: L) h := by
  induction A generalizing L h with
  | nil => exact ⟨fun _ => none, h, (fun _ _ e => by cases e), Le.refl _, (fun _ => .inl rfl), trivial, s⟩
  | cons c A ih =>
    obtain ⟨h1, h2, a, b, e, p, q⟩ := s
    obtain ⟨g1, g2, x, y, z, q1, r⟩ := ih q
    refine ⟨join h1 g1, g2, join_le a (x.trans b), y.trans b, fun k => ?_, ⟨h1, g1, join_left _ _, ?_, ?_, p, q1⟩, r⟩
    · rcases z k with u | u
      · rcases e k with v | v
        · exact .inl (join_none v u)
        · exact .inr (le_none y v)
      · exact .inr u
    · exact join_right fun k => (e k).imp id (fun v => le_none x v)
    · exact fun k => (e k).imp id (fun v => le_none x v)
/-- one piece is dropped -/
theorem Sats.drop (i : Nat) {L : List Ch} {h : Hp} (s : Sats L h) : Sats (L.eraseIdx i) h := by
  cases e : L[i]? with
  | some c => exact (Sats.pull i e s).tail
  | none =>
    have : L.eraseIdx i = L := List.eraseIdx_of_length_le (by simpa using e)
    rw [this]; exact s
theorem Sats.perm_app {A B : List Ch} {h : Hp} (s : Sats (A ++ B) h) : Sats (B ++ A) h := by
  induction A generalizing B h with
  | nil => simpa using s
  | cons c A ih =>
    have s2 : Sats (c :: (B ++ A)) h := Sats.under (fun h q => ih q) s
    clear s
    induction B generalizing h with
    | nil => simpa using s2
    | cons d B ihB => exact Sats.under (fun h q => ihB q) (Sats.swap s2)

/-! ### What can be read -/
def cellH (h : Hp) (a : Addr) : Option Value :=
  match h a.block with
  | some (.cells c _ _) => if a.spot.isSome then none else c[a.off]?
  | _ => none
theorem cellH_hp (w : World) (a : Addr) : cellH (hp w) a = w.cell? a := rfl
theorem cellH_mono {h h' : Hp} (k : Le h h') {a : Addr} {v : Value} (e : cellH h a = some v) : cellH h' a = some v := by
  unfold cellH at *
  cases u : h a.block with
  | none => rw [u] at e; cases e
  | some o => rw [u] at e; rw [k _ _ u]; exact e
/-- cell number k from A on holds v -/
def Rd (A : Option Addr) (k : Nat) (v : Value) (h : Hp) : Prop := ∃ a, A = some a ∧ cellH h (a.add k) = some v
theorem Rd.mono {A : Option Addr} {k : Nat} {v : Value} {h h' : Hp} (r : Rd A k v h) (l : Le h h') : Rd A k v h' := by
  obtain ⟨a, e, c⟩ := r
  exact ⟨a, e, cellH_mono l c⟩
/-- the cells from A on hold xs -/
def RdL (A : Option Addr) (xs : List Value) (h : Hp) : Prop := ∀ k v, xs[k]? = some v → Rd A k v h
theorem RdL.mono {A : Option Addr} {xs : List Value} {h h' : Hp} (r : RdL A xs h) (l : Le h h') : RdL A xs h' := fun k v e => (r k v e).mono l
theorem Addr.add_add (a : Addr) (j k : Nat) : (a.add j).add k = a.add (j + k) := by
  unfold Go.Addr.add
  by_cases h : j = 0
  · subst h; simp
  · by_cases g : k = 0
    · subst g; simp
    · have : j + k ≠ 0 := by omega
      simp [h, g, this, Nat.add_assoc]
theorem addr_mk (b j k : Nat) : (⟨b, j, none⟩ : Addr).add k = ⟨b, j + k, none⟩ := by
  unfold Go.Addr.add
  split <;> simp_all
/-- a pointer k cells behind A -/
def ptr (A : Option Addr) : Nat → Value
  | 0 => .pointer A
  | k + 1 => .pointer (A.map (·.add (k + 1)))
theorem ptr_some (a : Addr) (k : Nat) : ptr (some a) k = .pointer (some (a.add k)) := by
  cases k with
  | zero => show Value.pointer (some a) = _; rw [show a.add 0 = a from by simp [Go.Addr.add]]
  | succ k => rfl
/-- A row of n elements (s cells each, of the type t), of which the cells xs are known from its head on; the whole row is ours. A = none: the nil slice. -/
def own (A : Option Addr) (n cap : Nat) (t : TypeId) (s : Nat) (xs : List Value) : Ch := fun h =>
  n * s ≤ xs.length ∧ n ≤ cap ∧ cap ≤ maxLen ∧
  ((A = none ∧ cap = 0 ∧ xs = []) ∨ ∃ b rest, A = some ⟨b, 0, none⟩ ∧ h b = some (.cells (xs ++ rest).toArray t (0, 0)) ∧ (xs ++ rest).length = cap * s)
theorem own_rd {A : Option Addr} {n cap s : Nat} {t : TypeId} {xs : List Value} {h : Hp} (o : own A n cap t s xs h) : RdL A xs h := by
  intro k v e
  rcases o.2.2.2 with ⟨_, _, rfl⟩ | ⟨b, rest, hA, hb, hl⟩
  · simp at e
  · refine ⟨_, hA, ?_⟩
    rw [addr_mk]
    have hk : k < xs.length := (List.getElem?_eq_some_iff.1 e).1
    simp [cellH, hb, List.getElem?_append_left hk, e]
/-- A fact that some pieces give. -/
def Ent (L : List Ch) (F : Hp → Prop) : Prop := ∀ h, Sats L h → F h
theorem Ent.cons {c : Ch} {L : List Ch} {F : Hp → Prop} (e : Ent L F) : Ent (c :: L) F := fun h s => e h s.tail
theorem Ent.app {A L : List Ch} {F : Hp → Prop} (e : Ent L F) : Ent (A ++ L) F := by
  induction A with
  | nil => exact e
  | cons c A ih => exact ih.cons
theorem Ent.at {L : List Ch} {F : Hp → Prop} (i : Nat) {c : Ch} (e : L[i]? = some c) (f : ∀ h, c h → F h) (m : ∀ h h', Le h h' → F h → F h') : Ent L F := fun h s => by
  obtain ⟨h1, h2, a, _, _, p, _⟩ := Sats.pull i e s
  exact m _ _ a (f _ p)
theorem Ent.own {L : List Ch} (i : Nat) {A : Option Addr} {n cap s : Nat} {t : TypeId} {xs : List Value} (e : L[i]? = some (own A n cap t s xs)) : Ent L (RdL A xs) :=
  Ent.at i e (fun _ o => own_rd o) (fun _ _ l r => r.mono l)
/-- The blocks of a world, as they lie there. -/
def old (W : World) : Ch := fun h => ∀ b o, W.heap[b]? = some o → h b = some o
theorem old_le {W : World} {h : Hp} (o : old W h) : Le (hp W) h := o
theorem Ent.old {L : List Ch} (i : Nat) {W : World} (e : L[i]? = some (old W)) {F : Hp → Prop} (f : F (hp W)) (m : ∀ h h', Le h h' → F h → F h') : Ent L F :=
  Ent.at i e (fun _ o => m _ _ (old_le o) f) m

/-! ### The state of a walk -/
/-- Memory holds the pieces L; the streams are E's. -/
structure Sat (E w : World) (L : List Ch) : Prop where
  os : w.os = E.os
  tape : w.tape = E.tape
  output : w.output = E.output
  heap : Sats L (hp w)
theorem Sat.to {E w : World} {L M : List Ch} (s : Sat E w L) (f : ∀ h, Sats L h → Sats M h) : Sat E w M := ⟨s.os, s.tape, s.output, f _ s.heap⟩
theorem Sat.drew {E w : World} {L : List Ch} (s : Sat E w L) : Sat E { w with drawn := w.drawn + 1 } L := ⟨s.os, s.tape, s.output, s.heap⟩
theorem Sat.drewN {E w : World} {L : List Ch} (s : Sat E w L) (n : Nat) : Sat E (w.drewN n) L := ⟨s.os, s.tape, s.output, s.heap⟩
theorem Sat.start (w : World) : Sat w w [old w] :=
  ⟨rfl, rfl, rfl, hp w, (fun _ => none), Le.refl _, (fun _ _ e => by cases e), (fun _ => .inr rfl), (fun _ _ e => e), trivial⟩
theorem hp_alloc_le (w : World) (o : Obj) : Le (hp w) (hp (w.alloc o)) := fun b x e => by
  have hb : b < w.heap.size := (Array.getElem?_eq_some_iff.1 e).1
  show (w.alloc o).heap[b]? = some x
  rw [Below.heap_alloc w o b hb]; exact e
/-- A new block. -/
theorem Sat.alloc {E w : World} {L : List Ch} (s : Sat E w L) (o : Obj) (c : Ch) (hc : ∀ h : Hp, h w.heap.size = some o → c h) : Sat E (w.alloc o) (c :: L) := by
  refine ⟨s.os, s.tape, s.output, fun b => if b = w.heap.size then some o else none, hp w, ?_, hp_alloc_le w o, ?_, hc _ (by simp), s.heap⟩
  · intro b x e
    by_cases k : b = w.heap.size
    · subst k
      simp at e
      subst e
      exact heap_alloc_new w o
    · simp [k] at e
  · intro b
    by_cases k : b = w.heap.size
    · right
      subst k
      show w.heap[w.heap.size]? = none
      simp
    · left; simp [k]
/-- What was there is as it was. -/
theorem Sat.below {W w : World} {L : List Ch} (s : Sat W w (old W :: L)) : Below W.heap.size W w := by
  obtain ⟨h1, h2, a, _, _, p, _⟩ := s.heap
  have key : ∀ b, b < W.heap.size → w.heap[b]? = W.heap[b]? := fun b hb => by
    have e : W.heap[b]? = some W.heap[b] := by simp [hb]
    have := a b _ (p b _ e)
    rw [e]; exact this
  refine ⟨s.os, s.tape, s.output, ?_, key⟩
  rcases Nat.lt_or_ge w.heap.size W.heap.size with h | h
  · have := key w.heap.size h
    simp [h] at this
  · exact h

/-! ### Frames as lists -/
def look : List (Nat × Value) → Nat → Option Value
  | [], _ => none
  | (j, v) :: m, i => bif Nat.beq i j then some v else look m i
/-- the calls deferred, by the frame's word number 65536 (none: none) -/
def dfl : Option Value → List Deferred
  | some (.pointer (some a)) => [{ target := .collected a.block, args := #[] }]
  | _ => []
structure Fr (n : Nat) (a : Act) (m : List (Nat × Value)) : Prop where
  defers : a.defers = dfl (look m 65536)
  size : a.tmps.size = n
  small : n ≤ 65536
  get : ∀ i v, i ≠ 65536 → look m i = some v → a.tmps[i]? = some v
def ev (m : List (Nat × Value)) : Operand → Option Value
  | .tmp t => bif Nat.beq t 65536 then none else look m t
  | .const v => some v
  | .global g => some (.pointer (some ⟨g, 0, none⟩))
  | .func f => some (.func (.func f) #[] #[])
def evs (m : List (Nat × Value)) : List Operand → Option (List Value)
  | [] => some []
  | x :: xs => match ev m x, evs m xs with
    | some v, some vs => some (v :: vs)
    | _, _ => none
theorem Fr.tmp {n : Nat} {a : Act} {m : List (Nat × Value)} (f : Fr n a m) {t : Tmp} {v : Value} (h : ev m (.tmp t) = some v) : a.tmps[t]? = some v := by
  simp only [Eng.ev] at h
  cases e : Nat.beq t 65536 with
  | true => rw [e] at h; cases h
  | false =>
    rw [e] at h
    exact f.get t v (Nat.ne_of_beq_eq_false e) h
theorem Fr.ev {n : Nat} {a : Act} {m : List (Nat × Value)} (f : Fr n a m) {x : Operand} {v : Value} (h : ev m x = some v) : a.eval x = v := by
  cases x with
  | tmp t =>
    have := f.tmp h
    simp [Act.eval, Array.getD_eq_getD_getElem?, this]
  | const u => simpa [Eng.ev, Act.eval] using h
  | global g => simpa [Eng.ev, Act.eval] using h
  | func g => simpa [Eng.ev, Act.eval] using h
theorem Fr.evs {n : Nat} {a : Act} {m : List (Nat × Value)} (f : Fr n a m) : ∀ {xs : List Operand} {vs : List Value}, evs m xs = some vs → xs.map a.eval = vs
  | [], vs, h => by simp [Eng.evs] at h; simp [h]
  | x :: xs, vs, h => by
    unfold Eng.evs at h
    split at h
    · rename_i v us e1 e2
      simp at h
      subst h
      simp [f.ev e1, Fr.evs f e2]
    · cases h
theorem Fr.put {n : Nat} {a : Act} {m : List (Nat × Value)} (f : Fr n a m) (d : Nat) (v : Value) (hd : d < n) : Fr n (a.put (some d) v) ((d, v) :: m) := by
  have hd' : Nat.beq 65536 d = false := by
    have := f.small
    cases e : Nat.beq 65536 d with
    | false => rfl
    | true => have := Nat.eq_of_beq_eq_true e; omega
  refine ⟨by simp only [look, hd', cond_false]; exact f.defers, by simp [Act.put, f.size], f.small, fun i u hi h => ?_⟩
  unfold look at h
  cases e : Nat.beq i d with
  | true =>
    have : i = d := Nat.eq_of_beq_eq_true e
    subst this
    simp [e] at h
    subst h
    have : i < a.tmps.size := by rw [f.size]; exact hd
    simp [Act.put, this]
  | false =>
    have ne : i ≠ d := Nat.ne_of_beq_eq_false e
    simp [e] at h
    simp only [Act.put]
    rw [Array.getElem?_setIfInBounds_ne (Ne.symm ne)]
    exact f.get i u hi h
/-- All that m' tells m tells. -/
def Sub (m m' : List (Nat × Value)) : Prop := ∀ i v, look m' i = some v → look m i = some v
theorem Sub.nil (m : List (Nat × Value)) : Sub m [] := fun _ _ h => by cases h
theorem Sub.refl (m : List (Nat × Value)) : Sub m m := fun _ _ h => h
theorem Sub.cons {m m' : List (Nat × Value)} {j : Nat} {u v : Value} (h : look m j = some u) (e : u = v) (k : Sub m m') : Sub m ((j, v) :: m') := fun i x hx => by
  subst e
  unfold look at hx
  cases b : Nat.beq i j with
  | true =>
    have : i = j := Nat.eq_of_beq_eq_true b
    subst this
    simp [b] at hx
    subst hx
    exact h
  | false => simp [b] at hx; exact k i x hx
/-- the same, and the same calls deferred -/
structure SubD (m m' : List (Nat × Value)) : Prop where
  sub : Sub m m'
  dfs : look m 65536 = look m' 65536
theorem SubD.refl (m : List (Nat × Value)) : SubD m m := ⟨Sub.refl m, rfl⟩
theorem SubD.slot {m : List (Nat × Value)} {i : Nat} {u v : Value} (h : look m i = some u) (e : u = v) : SubD m ((i, v) :: m) := ⟨Sub.cons h e (Sub.refl m), by
  subst e
  show look m 65536 = (bif Nat.beq 65536 i then some u else look m 65536)
  cases b : Nat.beq 65536 i with
  | true => have := Nat.eq_of_beq_eq_true b; subst this; exact h
  | false => rfl⟩
theorem Fr.sub {n : Nat} {a : Act} {m m' : List (Nat × Value)} (f : Fr n a m) (s : SubD m m') : Fr n a m' := ⟨by rw [← s.dfs]; exact f.defers, f.size, f.small, fun i v hi h => f.get i v hi (s.sub i v h)⟩

/-- From every state that m and L describe X holds. -/
def Pk (E : World) (n : Nat) (m : List (Nat × Value)) (L : List Ch) (X : Act → World → Prop) : Prop := ∀ a w, Fr n a m → Sat E w L → X a w
section rules
variable {P : Program} {E : World} {n : Nat} {m : List (Nat × Value)} {L : List Ch} {Q : Exit → Act → World → Prop} {X : Act → World → Prop}
theorem Pk.weak {m' : List (Nat × Value)} {L' : List Ch} (hm : SubD m m') (hL : ∀ h, Sats L h → Sats L' h) (k : Pk E n m' L' X) : Pk E n m L X := fun a w f s => k a w (f.sub hm) (s.to hL)
theorem Pk.heap {L' : List Ch} (hL : ∀ h, Sats L h → Sats L' h) (k : Pk E n m L' X) : Pk E n m L X := fun a w f s => k a w f (s.to hL)
theorem Pk.slot (i : Nat) {u v : Value} (h : look m i = some u) (e : u = v) (k : Pk E n ((i, v) :: m) L X) : Pk E n m L X := fun a w f s => k a w (f.sub (SubD.slot h e)) s
/-- piece number i first -/
theorem Pk.pull (i : Nat) {c : Ch} (e : L[i]? = some c) (k : Pk E n m (c :: L.eraseIdx i) X) : Pk E n m L X := Pk.heap (fun _ => Sats.pull i e) k
/-- what a piece tells -/
theorem Pk.tells {F : Prop} (f : ∀ h, Sats L h → F) (k : F → Pk E n m L X) : Pk E n m L X := fun a w fr s => k (f _ s.heap) a w fr s
theorem Pk.ex {α : Type} {c : α → Ch} (k : ∀ x, Pk E n m (c x :: L) X) : Pk E n m ((fun h => ∃ x, c x h) :: L) X := fun a w f s => by
  obtain ⟨h1, h2, x, y, z, ⟨u, p⟩, q⟩ := s.heap
  exact k u a w f ⟨s.os, s.tape, s.output, h1, h2, x, y, z, p, q⟩
theorem Pk.fact {p : Prop} {c : Ch} (k : p → Pk E n m (c :: L) X) : Pk E n m ((fun h => p ∧ c h) :: L) X := fun a w f s => by
  obtain ⟨h1, h2, x, y, z, ⟨u, r⟩, q⟩ := s.heap
  exact k u a w f ⟨s.os, s.tape, s.output, h1, h2, x, y, z, r, q⟩
theorem pk_seq {x y : Code} (k : Pk E n m L (x.wp P (Exit.then (y.wp P Q) Q))) : Pk E n m L ((Code.seq x y).wp P Q) := fun a w f s => wp_seq (k a w f s)
theorem pk_skip (k : Pk E n m L (Q .normal)) : Pk E n m L (Code.skip.wp P Q) := fun a w f s => wp_skip (k a w f s)
theorem pk_exit {i : Nat} (k : Pk E n m L (Q (.exit i))) : Pk E n m L ((Code.exit i).wp P Q) := fun a w f s => wp_exit (k a w f s)
theorem pk_ret (k : Pk E n m L (Q .ret)) : Pk E n m L (Code.ret.wp P Q) := fun a w f s => wp_ret (k a w f s)
theorem pk_block {i : Nat} {c : Code} (k : Pk E n m L (c.wp P (Exit.inBlock i Q))) : Pk E n m L ((Code.block i c).wp P Q) := fun a w f s => wp_block (k a w f s)
theorem pk_here {i : Nat} (k : Pk E n m L (Q .normal)) : Pk E n m L (Exit.inBlock i Q (.exit i)) := fun a w f s => by simp only [Exit.inBlock, if_true]; exact k a w f s
theorem pk_out {i j : Nat} (h : Nat.beq j i = false) (k : Pk E n m L (Q (.exit j))) : Pk E n m L (Exit.inBlock i Q (.exit j)) := fun a w f s => by
  simp only [Exit.inBlock]; rw [if_neg (Nat.ne_of_beq_eq_false h)]; exact k a w f s
theorem pk_cond {c : Operand} {x y : Code} {t : Bool} (hc : ev m c = some (.bool t)) (k : Pk E n m L ((bif t then x else y).wp P Q)) : Pk E n m L ((Code.cond c x y).wp P Q) := fun a w f s => by
  refine wp_cond (t := t) (f.ev hc) ?_
  cases t <;> exact k a w f s
theorem pk_cond_t {c : Operand} {x y : Code} (hc : ev m c = some (.bool true)) (k : Pk E n m L (x.wp P Q)) : Pk E n m L ((Code.cond c x y).wp P Q) := pk_cond hc k
theorem pk_cond_f {c : Operand} {x y : Code} (hc : ev m c = some (.bool false)) (k : Pk E n m L (y.wp P Q)) : Pk E n m L ((Code.cond c x y).wp P Q) := pk_cond hc k
/-- both ways of a test -/
theorem pk_if {c : Operand} {x y : Code} {p : Prop} [Decidable p] (hc : ev m c = some (.bool (decide p))) (kt : p → Pk E n m L (x.wp P Q)) (kf : ¬ p → Pk E n m L (y.wp P Q)) : Pk E n m L ((Code.cond c x y).wp P Q) := by
  by_cases h : p
  · exact pk_cond_t (by rw [hc, decide_eq_true h]) (kt h)
  · exact pk_cond_f (by rw [hc, decide_eq_false h]) (kf h)
theorem pk_ifb {c : Operand} {x y : Code} {b : Bool} (hc : ev m c = some (.bool b)) (kt : b = true → Pk E n m L (x.wp P Q)) (kf : b = false → Pk E n m L (y.wp P Q)) : Pk E n m L ((Code.cond c x y).wp P Q) := by
  cases b
  · exact pk_cond_f hc (kf rfl)
  · exact pk_cond_t hc (kt rfl)
theorem pk_region {id : Nat} {ops : Array Oper} (k : Pk E n m L (wpList P ops Q ops.toList)) : Pk E n m L ((Code.region id ops false).wp P Q) := fun a w f s => wp_region_list (k a w f s)
theorem pk_nil {ops : Array Oper} (k : Pk E n m L (Q .normal)) : Pk E n m L (wpList P ops Q []) := fun a w f s => wpList_nil (k a w f s)
/-- a loop: what holds at each round's head -/
theorem pk_loop {c : Code} {α : Type} (x0 : α) (I : α → List (Nat × Value)) (H : α → List Ch) (p : α → Prop) (μ : α → Nat) (h0 : p x0) (hm : SubD m (I x0)) (hL : ∀ h, Sats L h → Sats (H x0) h)
    (round : ∀ x, p x → Pk E n (I x) (H x) (c.wp P (Exit.then (fun a w => ∃ y, p y ∧ μ y < μ x ∧ Fr n a (I y) ∧ Sat E w (H y)) Q))) : Pk E n m L ((Code.loop c).wp P Q) := fun a w f s => by
  refine wp_loop_ghost (fun k a w => ∃ x, μ x = k ∧ p x ∧ Fr n a (I x) ∧ Sat E w (H x)) (μ x0) ⟨x0, rfl, h0, f.sub hm, s.to hL⟩ ?_
  rintro k a w ⟨x, rfl, hx, fx, sx⟩
  refine Code.wp_mono ?_ (round x hx a w fx sx)
  intro e a' w' h
  cases e <;> first | exact h | skip
  obtain ⟨y, hy, hlt, fy, sy⟩ := h
  exact ⟨μ y, hlt, y, rfl, hy, fy, sy⟩
end rules
end Go.Proofs.Eng
