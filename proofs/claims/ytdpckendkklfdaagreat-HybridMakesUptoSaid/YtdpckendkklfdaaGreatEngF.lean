/- The engine, part 6: maps. A map's entries read as a list of pairs, in the order in which the keys came. -/
import Derived.Test.YtdpckendkklfdaaGreatEngE
set_option linter.unusedVariables false
set_option linter.unusedSimpArgs false
set_option linter.unusedSectionVars false
namespace Go.Proofs.Eng
open Go.RowKit

section lists
variable {K V : Type} [DecidableEq K]
def aget : List (K × V) → K → V → V
  | [], _, z => z
  | (k', v) :: r, k, z => if k = k' then v else aget r k z
def ahas : List (K × V) → K → Bool
  | [], _ => false
  | (k', _) :: r, k => if k = k' then true else ahas r k
def aput : List (K × V) → K → V → List (K × V)
  | [], k, v => [(k, v)]
  | (k', v') :: r, k, v => if k = k' then (k, v) :: r else (k', v') :: aput r k v
def adel : List (K × V) → K → List (K × V)
  | [], _ => []
  | (k', v') :: r, k => if k = k' then r else (k', v') :: adel r k
theorem aget_aput_same (l : List (K × V)) (k : K) (v z : V) : aget (aput l k v) k z = v := by
  induction l with
  | nil => simp [aput, aget]
  | cons p l ih =>
    obtain ⟨k', v'⟩ := p
    by_cases h : k = k'
    · simp [aput, aget, h]
    · simp [aput, aget, h, ih]
theorem aget_aput_other (l : List (K × V)) {k j : K} (v z : V) (h : j ≠ k) : aget (aput l k v) j z = aget l j z := by
  induction l with
  | nil => simp [aput, aget, h]
  | cons p l ih =>
    obtain ⟨k', v'⟩ := p
    by_cases e : k = k'
    · subst e; simp [aput, aget, h]
    · simp only [aput, e, if_false, aget, ih]
theorem ahas_aput_same (l : List (K × V)) (k : K) (v : V) : ahas (aput l k v) k = true := by
  induction l with
  | nil => simp [aput, ahas]
  | cons p l ih =>
    obtain ⟨k', v'⟩ := p
    by_cases h : k = k'
    · simp [aput, ahas, h]
    · simp [aput, ahas, h, ih]
theorem ahas_aput_other (l : List (K × V)) {k j : K} (v : V) (h : j ≠ k) : ahas (aput l k v) j = ahas l j := by
  induction l with
  | nil => simp [aput, ahas, h]
  | cons p l ih =>
    obtain ⟨k', v'⟩ := p
    by_cases e : k = k'
    · subst e; simp [aput, ahas, h]
    · simp only [aput, e, if_false, ahas, ih]
theorem ahas_iff (l : List (K × V)) (k : K) : ahas l k = true ↔ ∃ v, (k, v) ∈ l := by
  induction l with
  | nil => simp [ahas]
  | cons p l ih =>
    obtain ⟨k', v'⟩ := p
    by_cases h : k = k'
    · subst h
      simp only [ahas, if_true, true_iff]
      exact ⟨v', by simp⟩
    · simp only [ahas, h, if_false, ih, List.mem_cons, Prod.mk.injEq, false_and, false_or]
theorem aget_not {l : List (K × V)} {k : K} (z : V) (h : ahas l k = false) : aget l k z = z := by
  induction l with
  | nil => rfl
  | cons p l ih =>
    obtain ⟨k', v'⟩ := p
    by_cases e : k = k'
    · simp [ahas, e] at h
    · simp only [ahas, e, if_false] at h
      simp [aget, e, ih h]
theorem aput_new {l : List (K × V)} {k : K} (v : V) (h : ahas l k = false) : aput l k v = l ++ [(k, v)] := by
  induction l with
  | nil => rfl
  | cons p l ih =>
    obtain ⟨k', v'⟩ := p
    by_cases e : k = k'
    · simp [ahas, e] at h
    · simp only [ahas, e, if_false] at h
      simp [aput, e, ih h]
def afind (encv : V → Value) : List (K × V) → K → Nat → Option (Nat × Value)
  | [], _, _ => none
  | (k', v) :: r, k, i => if k = k' then some (i, encv v) else afind encv r k (i + 1)
theorem afind_has (encv : V → Value) (z : V) : ∀ (l : List (K × V)) (k : K) (i : Nat), (ahas l k = true ∧ ∃ j, afind encv l k i = some (i + j, encv (aget l k z)) ∧ j < l.length ∧ (l.getD j (k, z)).1 = k ∧ (∀ v, aput l k v = l.set j (k, v)) ∧ adel l k = l.eraseIdx j) ∨ (ahas l k = false ∧ afind encv l k i = none ∧ adel l k = l)
  | [], k, i => .inr ⟨rfl, rfl, rfl⟩
  | (k', v) :: r, k, i => by
    by_cases h : k = k'
    · subst h
      exact .inl ⟨by simp [ahas], 0, by simp [afind, aget], by simp, by simp, by simp [aput], by simp [adel]⟩
    · rcases afind_has encv z r k (i + 1) with ⟨h1, j, h2, h3, h4, h5, h6⟩ | ⟨h1, h2, h3⟩
      · refine .inl ⟨by simp [ahas, h, h1], j + 1, ?_, by simpa using h3, by simpa using h4, fun v' => by simp [aput, h, h5], by simp [adel, h, h6]⟩
        simp only [afind, h, if_false, aget]
        rw [h2]
        congr 2
        omega
      · exact .inr ⟨by simp [ahas, h, h1], by simp [afind, h, h2], by simp [adel, h, h3]⟩
end lists

/-- What is asked of a key's type. -/
structure KeyOk (P : Program) (kt : TypeId) {K : Type} [DecidableEq K] (enc : K → Value) : Prop where
  check : ∀ (e : Bool) (k : K) (w : World), (Instr.checkKey e 10000 kt (enc k)).run P w = .ok () w
  find : ∀ {V : Type} (encv : V → Value) (k : K) (l : List (K × V)) (es : List MapEntry) (w : World), es.map (fun e => (e.key, e.val)) = l.map (fun p => (enc p.1, encv p.2)) → (Instr.findKey kt (enc k) es).run P w = .ok (afind encv l k 0) w
  bits : ∀ k, Instr.sameBits 10000 (enc k) (enc k) = true
section keys
variable {P : Program} {kt : TypeId}
theorem findNow_spec {K V : Type} [DecidableEq K] (kind : TypeDesc) (enc : K → Value) (encv : V → Value) (hs : ∀ a b, Instr.sameNow kind (enc a) (enc b) = some (decide (a = b))) (k : K) :
    ∀ (l : List (K × V)) (es : List MapEntry) (i : Nat), es.map (fun e => (e.key, e.val)) = l.map (fun p => (enc p.1, encv p.2)) → Instr.findNow kind (enc k) es i = some (afind encv l k i)
  | [], [], i, _ => rfl
  | [], e :: es, i, h => by simp at h
  | p :: l, [], i, h => by simp at h
  | (k', v) :: l, e :: es, i, h => by
    simp only [List.map_cons, List.cons.injEq, Prod.mk.injEq] at h
    obtain ⟨⟨h1, h2⟩, h3⟩ := h
    unfold Instr.findNow
    rw [h1, hs]
    by_cases hk : k = k'
    · simp [hk, afind, h2]
    · simp only [hk, decide_false, afind, if_false]
      exact findNow_spec kind enc encv hs k l es (i + 1) h3
theorem findKey_now {K V : Type} [DecidableEq K] {kind : TypeDesc} (hk : P.underlying kt = some kind) (enc : K → Value) (encv : V → Value) (hs : ∀ a b, Instr.sameNow kind (enc a) (enc b) = some (decide (a = b))) (k : K) (l : List (K × V)) (es : List MapEntry) (w : World)
    (h : es.map (fun e => (e.key, e.val)) = l.map (fun p => (enc p.1, encv p.2))) : (Instr.findKey kt (enc k) es).run P w = .ok (afind encv l k 0) w := by
  simp [Instr.findKey, run_underlying hk, findNow_spec kind enc encv hs k l es 0 h]
theorem run_checkKey_plain {kind : TypeDesc} (hk : P.underlying kt = some kind) (hn : (match kind with | .interface _ | .array _ _ | .struct _ => false | _ => true) = true) (e : Bool) (v : Value) (n : Nat) (w : World) : (Instr.checkKey e (n + 1) kt v).run P w = .ok () w := by
  cases kind <;> simp at hn <;> (unfold Instr.checkKey; simp [run_underlying hk])
theorem keyOk_string (hk : P.underlying kt = some .string) : KeyOk P kt (fun s : ByteArray => .string s) where
  check e k w := run_checkKey_plain hk rfl e _ 9999 w
  find encv k l es w h := findKey_now hk _ encv (fun a b => by
    simp only [Instr.sameNow]
    congr 1
    by_cases e : a = b
    · subst e; simp [MapKept.bytes_beq]
    · simp only [e, decide_false]
      cases h : (a == b) with
      | false => rfl
      | true => exact absurd ((MapKept.bytes_beq a b).1 h) e) k l es w h
  bits k := by
    show (k == k) = true
    exact (MapKept.bytes_beq k k).2 rfl
theorem keyOk_int {kd kd' : IntKind} (hk : P.underlying kt = some (.int kd)) : KeyOk P kt (fun z : Int => .int kd' z) where
  check e k w := run_checkKey_plain hk rfl e _ 9999 w
  find encv k l es w h := findKey_now hk _ encv (fun a b => by
    simp only [Instr.sameNow, if_true]
    by_cases e : a = b <;> simp [e]) k l es w h
  bits k := by unfold Instr.sameBits; simp
end keys

/-- A map that reads as l. -/
def mapc {K V : Type} (M : Option Nat) (enc : K → Value) (encv : V → Value) (l : List (K × V)) : Ch := fun h =>
  ∃ b es clock, M = some b ∧ h b = some (.map es clock) ∧ es.toList.map (fun e => (e.key, e.val)) = l.map (fun p => (enc p.1, encv p.2)) ∧ (∀ e ∈ es.toList, e.born < clock) ∧ (es.toList.map (·.born)).Nodup
section ops
variable {P : Program} {m : List (Nat × Value)} {L : List Ch} {o : Oper} {K V : Type} [DecidableEq K] {enc : K → Value} {encv : V → Value}
theorem eff_mapNew (enc : K → Value) (encv : V → Value) {t : TypeId} (ho : o.op = .makeMap t none) : Eff P m L o (fun b : Nat => .map (some b)) (fun b => mapc (some b) enc encv [] :: L) (fun _ => True) := fun E a w f s => by
  refine .inl ⟨w.heap.size, w.alloc (.map #[] 0), trivial, s.alloc _ _ ?_, .inl ?_⟩
  · exact fun h e => ⟨_, #[], 0, rfl, e, by simp, by simp, by simp⟩
  · simp [execOp, ho, Instr.makeMap]
/-- how a map reads -/
def MapRd (M : Option Nat) (enc : K → Value) (encv : V → Value) (l : List (K × V)) (h : Hp) : Prop := ∃ b es clock, M = some b ∧ h b = some (.map es clock) ∧ es.toList.map (fun e => (e.key, e.val)) = l.map (fun p => (enc p.1, encv p.2))
theorem Ent.map {M : Option Nat} {l : List (K × V)} (i : Nat) (e : L[i]? = some (mapc M enc encv l)) : Ent L (MapRd M enc encv l) :=
  Ent.at i e (fun h ⟨b, es, ck, h1, h2, h3, _⟩ => ⟨b, es, ck, h1, h2, h3⟩) (fun h h' le ⟨b, es, ck, h1, h2, h3⟩ => ⟨b, es, ck, h1, le _ _ h2, h3⟩)
theorem val_lookup {t kt et : TypeId} {x y : Operand} {M : Option Nat} {l : List (K × V)} {k : K} {zv : Value} (z : V) (ho : o.op = .lookup t x y false) (ht : P.underlying t = some (.map kt et)) (hk : KeyOk P kt enc) (hz : (P.info? et).map (fun i => i.zero) = some (some zv)) (hzv : encv z = zv)
    (hx : ev m x = some (.map M)) (hy : ev m y = some (enc k)) (hM : Ent L (MapRd M enc encv l)) : Val P m L o (encv (aget l k z)) := fun a w f s => by
  obtain ⟨b, es, ck, rfl, h2, h3⟩ := hM _ s
  have h2' : w.heap[b]? = some (.map es ck) := h2
  obtain ⟨info, e4, e5⟩ := Option.map_eq_some_iff.1 hz
  have hg : (getObj b).run P w = .ok (.map es ck) w := by simp [getObj, Sem.run, h2']
  have hf := hk.find encv k l es.toList w h3
  rcases afind_has encv z l k 0 with ⟨_, j, hj, _⟩ | ⟨hn, hj, _⟩
  · simp [execOp, ho, f _ _ hx, f _ _ hy, Instr.lookup, run_underlying ht, hg, hk.check, hf, hj]
  · rw [aget_not z hn, hzv]
    simp [execOp, ho, f _ _ hx, f _ _ hy, Instr.lookup, run_underlying ht, hg, hk.check, hf, hj, zeroValue, typeInfo, e4, e5]
theorem val_lookup_ok {t kt et : TypeId} {x y : Operand} {M : Option Nat} {l : List (K × V)} {k : K} {zv : Value} (z : V) (ho : o.op = .lookup t x y true) (ht : P.underlying t = some (.map kt et)) (hk : KeyOk P kt enc) (hz : (P.info? et).map (fun i => i.zero) = some (some zv)) (hzv : encv z = zv)
    (hx : ev m x = some (.map M)) (hy : ev m y = some (enc k)) (hM : Ent L (MapRd M enc encv l)) : Val P m L o (.tuple #[encv (aget l k z), .bool (ahas l k)]) := fun a w f s => by
  obtain ⟨b, es, ck, rfl, h2, h3⟩ := hM _ s
  have h2' : w.heap[b]? = some (.map es ck) := h2
  obtain ⟨info, e4, e5⟩ := Option.map_eq_some_iff.1 hz
  have hg : (getObj b).run P w = .ok (.map es ck) w := by simp [getObj, Sem.run, h2']
  have hf := hk.find encv k l es.toList w h3
  rcases afind_has encv z l k 0 with ⟨hn, j, hj, _⟩ | ⟨hn, hj, _⟩
  · simp [execOp, ho, f _ _ hx, f _ _ hy, Instr.lookup, run_underlying ht, hg, hk.check, hf, hj, hn]
  · rw [aget_not z hn, hzv]
    simp [execOp, ho, f _ _ hx, f _ _ hy, Instr.lookup, run_underlying ht, hg, hk.check, hf, hj, zeroValue, typeInfo, e4, e5, hn]
theorem val_maplen {t kt et : TypeId} {x : Operand} {M : Option Nat} {l : List (K × V)} (ho : o.op = .call { callee := .builtin .len, args := #[x], argTypes := #[t] }) (ht : P.underlying t = some (.map kt et)) (hx : ev m x = some (.map M)) (hM : Ent L (MapRd M enc encv l)) : Val P m L o (.int .i64 l.length) := fun a w f s => by
  obtain ⟨b, es, ck, rfl, h2, h3⟩ := hM _ s
  have h2' : w.heap[b]? = some (.map es ck) := h2
  have hg : (getObj b).run P w = .ok (.map es ck) w := by simp [getObj, Sem.run, h2']
  have hl : es.size = l.length := by have := congrArg List.length h3; simpa using this
  simp [execOp, ho, f _ _ hx, resolve, invoke, builtin, Builtin.len_, run_underlying ht, hg, goInt, hl]
theorem born_modify (es : Array MapEntry) (j : Nat) (key v : Value) : (es.modify j fun e => { e with key := key, val := v }).toList.map (·.born) = es.toList.map (·.born) := by
  rw [Array.toList_modify]
  apply List.ext_getElem?
  intro i
  simp only [List.getElem?_map, List.getElem?_modify]
  cases es.toList[i]? with
  | none => rfl
  | some e => by_cases h : j = i <;> simp [h]
theorem eff_mapUpdate {t kt et : TypeId} {x y v : Operand} (i : Nat) {M : Option Nat} {l : List (K × V)} {k : K} (z : V) (ho : o.op = .mapUpdate t x y v) (ht : P.underlying t = some (.map kt et)) (hk : KeyOk P kt enc)
    (hx : ev m x = some (.map M)) (hy : ev m y = some (enc k)) (hv : ev m v = some (encv z)) (hL : L[i]? = some (mapc M enc encv l)) :
    Eff P m L o (fun _ : Unit => undef) (fun _ => L.set i (mapc M enc encv (aput l k z))) (fun _ => True) := fun E a w f st => by
  obtain ⟨h1', hle, ⟨b, es, ck, rfl, h2, h3, h4, h5⟩, hup⟩ := Sats.upd hL st.heap
  have h2' : w.heap[b]? = some (.map es ck) := hle _ _ h2
  have hg : (getObj b).run P w = .ok (.map es ck) w := by simp [getObj, Sem.run, h2']
  have hso : ∀ o', (setObj b o').run P w = .ok () { w with heap := w.heap.setIfInBounds b o' } := fun o' => by simp [setObj, Sem.run, h2']
  have hf := hk.find encv k l es.toList w h3
  have hlen : es.size = l.length := by have := congrArg List.length h3; simpa using this
  rcases afind_has encv z l k 0 with ⟨hn, j, hj, hjl, hjk, hput, _⟩ | ⟨hn, hj, _⟩
  · -- the key is there
    rw [Nat.zero_add] at hj
    have hjs : j < es.size := by omega
    have hkey : es[j].key = enc k := by
      have := congrArg (fun l => l[j]?) h3
      simp only [List.getElem?_map] at this
      rw [List.getElem?_eq_getElem (by simpa using hjs), List.getElem?_eq_getElem hjl] at this
      simp only [Option.map_some, Option.some.injEq, Prod.mk.injEq, Array.getElem_toList] at this
      rw [this.1]
      congr 1
      have : l.getD j (k, z) = l[j] := by simp [hjl]
      rw [← this]; exact hjk
    have hkt : (Instr.keyThatStays (((es[j]?).map (·.key)).getD (enc k)) (enc k)).run P w = .ok (enc k) w := by
      simp [Instr.keyThatStays, hjs, hkey, hk.bits]
    refine .inl ⟨(), { w with heap := w.heap.setIfInBounds b (.map (es.modify j fun e => { e with key := enc k, val := encv z }) ck) }, trivial, ⟨st.os, st.tape, st.output, ?_⟩, .inr ⟨?_, rfl⟩⟩
    · rw [hp_setObj h2']
      refine hup _ b _ (by rw [h2]; simp) ⟨b, _, ck, rfl, upd_same _ _ _, ?_, ?_, ?_⟩
      · rw [hput z, Array.toList_modify]
        apply List.ext_getElem?
        intro i
        have := congrArg (fun l => l[i]?) h3
        simp only [List.getElem?_map] at this
        simp only [List.getElem?_map, List.getElem?_modify, List.getElem?_set]
        by_cases hij : j = i
        · subst hij
          simp only [if_true]
          rw [List.getElem?_eq_getElem (show j < es.toList.length by simpa using hjs)]
          simp [hjl]
        · simp only [hij, if_false]
          cases h : es.toList[i]? with
          | none => rw [h] at this; simpa using this
          | some e => rw [h] at this; simpa using this
      · intro e he
        rw [Array.toList_modify] at he
        obtain ⟨i, hi⟩ := List.getElem?_of_mem he
        rw [List.getElem?_modify] at hi
        cases h : es.toList[i]? with
        | none => rw [h] at hi; cases hi
        | some e' =>
          rw [h] at hi
          have hb := h4 e' (List.mem_of_getElem? h)
          by_cases hij : j = i
          · simp [hij] at hi; rw [← hi]; exact hb
          · simp [hij] at hi; rw [← hi]; exact hb
      · rw [born_modify]; exact h5
    · simp [execOp, ho, f _ _ hx, f _ _ hy, f _ _ hv, Instr.mapUpdate, run_underlying ht, hg, hk.check, hf, hj, hkt, hso]
  · -- a new key
    refine .inl ⟨(), { w with heap := w.heap.setIfInBounds b (.map (es.push { key := enc k, val := encv z, born := ck }) (ck + 1)) }, trivial, ⟨st.os, st.tape, st.output, ?_⟩, .inr ⟨?_, rfl⟩⟩
    · rw [hp_setObj h2']
      refine hup _ b _ (by rw [h2]; simp) ⟨b, _, ck + 1, rfl, upd_same _ _ _, ?_, ?_, ?_⟩
      · rw [aput_new z hn]; simp [h3]
      · intro e he
        simp only [Array.toList_push, List.mem_append, List.mem_singleton] at he
        rcases he with he | he
        · have := h4 e he; omega
        · subst he; simp
      · simp only [Array.toList_push, List.map_append, List.map_cons, List.map_nil]
        rw [List.nodup_append]
        refine ⟨h5, by simp, ?_⟩
        intro x hx y hy
        simp only [List.mem_singleton] at hy
        obtain ⟨e, he, rfl⟩ := List.mem_map.1 hx
        have := h4 e he
        omega
    · simp [execOp, ho, f _ _ hx, f _ _ hy, f _ _ hv, Instr.mapUpdate, run_underlying ht, hg, hk.check, hf, hj, hso]
end ops
end Go.Proofs.Eng
