/- The engine, part 12: maps of rows, delete, ranges over a map. -/
import Derived.Test.YtdpckendkklfdaaGreatEngK
import Derived.Maps.RangeRun
set_option linter.unusedVariables false
set_option linter.unusedSimpArgs false
set_option linter.unusedSectionVars false
namespace Go.Proofs.Eng
open Go.RowKit
section rows
variable {K V : Type} [DecidableEq K]
theorem ahas_find : ∀ (l : List (K × V)) (k : K) (z : V), (ahas l k = true ∧ ∃ j : Nat, l[j]? = some (k, aget l k z) ∧ (∀ v, aput l k v = l.set j (k, v)) ∧ adel l k = l.eraseIdx j) ∨ (ahas l k = false ∧ adel l k = l)
  | [], k, z => .inr ⟨rfl, rfl⟩
  | (k', v) :: r, k, z => by
    by_cases h : k = k'
    · subst h
      exact .inl ⟨by simp [ahas], 0, by simp [aget], by simp [aput], by simp [adel]⟩
    · rcases ahas_find r k z with ⟨h1, j, h2, h3, h4⟩ | ⟨h1, h2⟩
      · exact .inl ⟨by simp [ahas, h, h1], j + 1, by simp [aget, h, h2], fun v' => by simp [aput, h, h3], by simp [adel, h, h4]⟩
      · exact .inr ⟨by simp [ahas, h, h1], by simp [adel, h, h2]⟩
/-- the row of a key comes first; where there is none, a row of nothing -/
theorem Sats.row_take {f : K × V → Ch} {l : List (K × V)} {L : List Ch} {h : Hp} (k : K) (z : V) (hz : ∀ {L : List Ch} {h : Hp}, Sats L h → Sats (f (k, z) :: L) h) (s : Sats (cat (l.map f) :: L) h) : Sats (f (k, aget l k z) :: cat ((adel l k).map f) :: L) h := by
  rcases ahas_find l k z with ⟨_, j, h2, _, h4⟩ | ⟨h1, h2⟩
  · rw [h4]; exact Sats.cat_pull j h2 s
  · rw [h2, aget_not z h1]; exact hz s
theorem Sats.row_put {f : K × V → Ch} {l : List (K × V)} {L : List Ch} {h : Hp} (k : K) (v : V) (s : Sats (f (k, v) :: cat ((adel l k).map f) :: L) h) : Sats (cat ((aput l k v).map f) :: L) h := by
  rcases ahas_find l k v with ⟨_, j, h2, h3, h4⟩ | ⟨h1, h2⟩
  · rw [h4] at s; rw [h3]; exact Sats.cat_push j h2 s
  · rw [h2] at s; rw [aput_new v h1]; exact Sats.cat_snoc s
theorem Sats.row_del {f : K × V → Ch} {l : List (K × V)} {L : List Ch} {h : Hp} (k : K) (s : Sats (cat (l.map f) :: L) h) : Sats (cat ((adel l k).map f) :: L) h := by
  cases hv : l with
  | nil => subst hv; exact s
  | cons p r =>
    rcases ahas_find l k p.2 with ⟨_, j, h2, _, h4⟩ | ⟨h1, h2⟩
    · rw [← hv, h4]; exact (Sats.cat_pull j h2 s).tail
    · rw [← hv, h2]; exact s
/-- what a key's row tells -/
theorem Ent.row {f : K × V → Ch} {l : List (K × V)} {L : List Ch} {F : V → Hp → Prop} (i : Nat) (e : L[i]? = some (Eng.cat (l.map f))) (k : K) (z : V) (g : ∀ v h, f (k, v) h → F v h) (m : ∀ v h h', Le h h' → F v h → F v h') (g0 : ∀ h, F z h) : Ent L (F (aget l k z)) := by
  rcases ahas_find l k z with ⟨_, j, h2, _, _⟩ | ⟨h1, _⟩
  · exact Ent.cat i e h2 (g _) (m _)
  · rw [aget_not z h1]; exact fun h _ => g0 h
theorem adel_not {l : List (K × V)} {k : K} (h : ahas l k = false) : adel l k = l := by
  cases l with
  | nil => rfl
  | cons p r =>
    rcases ahas_find (p :: r) k p.2 with ⟨h1, _⟩ | ⟨_, h2⟩
    · rw [h] at h1; cases h1
    · exact h2
/-- no key twice -/
def Uniq (l : List (K × V)) : Prop := (l.map (·.1)).Nodup
theorem ahas_mem {l : List (K × V)} {k : K} : ahas l k = true ↔ k ∈ l.map (·.1) := by
  rw [ahas_iff]
  simp
theorem Uniq.aput {l : List (K × V)} (u : Uniq l) (k : K) (v : V) : Uniq (Eng.aput l k v) := by
  induction l with
  | nil => simp [Uniq, Eng.aput]
  | cons p r ih =>
    obtain ⟨k', v'⟩ := p
    simp only [Uniq, List.map_cons, List.nodup_cons] at u
    by_cases h : k = k'
    · subst h
      simp only [Eng.aput, if_true, Uniq, List.map_cons, List.nodup_cons]
      exact u
    · simp only [Eng.aput, h, if_false, Uniq, List.map_cons, List.nodup_cons]
      refine ⟨fun hm => u.1 ?_, ih u.2⟩
      rw [← ahas_mem] at hm ⊢
      rwa [ahas_aput_other _ _ (fun e => h e.symm)] at hm
theorem adel_sub : ∀ (l : List (K × V)) (k : K), List.Sublist (adel l k) l
  | [], _ => List.Sublist.slnil
  | (k', v') :: r, k => by
    by_cases h : k = k'
    · simp [adel, h]
    · simp only [adel, h, if_false]; exact (adel_sub r k).cons_cons _
theorem Uniq.adel {l : List (K × V)} (u : Uniq l) (k : K) : Uniq (Eng.adel l k) := u.sublist ((adel_sub l k).map _)
theorem ahas_adel_other (l : List (K × V)) {k j : K} (h : j ≠ k) : ahas (adel l k) j = ahas l j := by
  induction l with
  | nil => rfl
  | cons p r ih =>
    obtain ⟨k', v'⟩ := p
    by_cases e : k = k'
    · subst e; simp [adel, ahas, h]
    · simp only [adel, e, if_false, ahas, ih]
theorem ahas_adel_same {l : List (K × V)} (u : Uniq l) (k : K) : ahas (adel l k) k = false := by
  induction l with
  | nil => rfl
  | cons p r ih =>
    obtain ⟨k', v'⟩ := p
    simp only [Uniq, List.map_cons, List.nodup_cons] at u
    by_cases e : k = k'
    · subst e
      simp only [adel, if_true]
      cases hh : ahas r k with
      | false => rfl
      | true => exact absurd (ahas_mem.1 hh) u.1
    · simp only [adel, e, if_false, ahas]
      exact ih u.2
theorem aget_adel_other (l : List (K × V)) {k j : K} (z : V) (h : j ≠ k) : aget (adel l k) j z = aget l j z := by
  induction l with
  | nil => rfl
  | cons p r ih =>
    obtain ⟨k', v'⟩ := p
    by_cases e : k = k'
    · subst e; simp [adel, aget, h]
    · simp only [adel, e, if_false, aget, ih]
theorem mem_aget {l : List (K × V)} (u : Uniq l) {k : K} {v : V} (z : V) (h : (k, v) ∈ l) : ahas l k = true ∧ aget l k z = v := by
  induction l with
  | nil => cases h
  | cons p r ih =>
    obtain ⟨k', v'⟩ := p
    simp only [Uniq, List.map_cons, List.nodup_cons] at u
    rcases List.mem_cons.1 h with e | e
    · cases e; simp [ahas, aget]
    · have hk : k ≠ k' := fun hk => u.1 (by rw [← hk]; exact List.mem_map.2 ⟨_, e, rfl⟩)
      simp only [ahas, aget, hk, if_false]
      exact ih u.2 e
theorem aget_mem {l : List (K × V)} {k : K} (z : V) (h : ahas l k = true) : (k, aget l k z) ∈ l := by
  rcases ahas_find l k z with ⟨_, j, h2, _⟩ | ⟨h1, _⟩
  · exact List.mem_of_getElem? h2
  · rw [h] at h1; cases h1
theorem mem_aput {l : List (K × V)} {k : K} {v : V} {p : K × V} (h : p ∈ aput l k v) : p = (k, v) ∨ p ∈ l := by
  induction l with
  | nil => simp [aput] at h; exact .inl h
  | cons q r ih =>
    obtain ⟨k', v'⟩ := q
    by_cases e : k = k'
    · subst e
      simp only [aput, if_true, List.mem_cons] at h
      rcases h with h | h
      · exact .inl h
      · exact .inr (List.mem_cons_of_mem _ h)
    · simp only [aput, e, if_false, List.mem_cons] at h
      rcases h with h | h
      · exact .inr (by rw [h]; exact List.mem_cons_self)
      · rcases ih h with h | h
        · exact .inl h
        · exact .inr (List.mem_cons_of_mem _ h)
theorem mem_adel {l : List (K × V)} {k : K} {p : K × V} (h : p ∈ adel l k) : p ∈ l := (adel_sub l k).subset h
/-- the values of a list of pairs, turned -/
def mapv {V W : Type} (g : V → W) (l : List (K × V)) : List (K × W) := l.map fun p => (p.1, g p.2)
section
variable {V W : Type} (g : V → W)
theorem aget_mapv (l : List (K × V)) (k : K) (z : V) : aget (mapv g l) k (g z) = g (aget l k z) := by
  induction l with
  | nil => rfl
  | cons p r ih =>
    obtain ⟨k', v⟩ := p
    by_cases h : k = k'
    · simp [mapv, aget, h]
    · simp only [mapv, List.map_cons, aget, h, if_false]; exact ih
theorem ahas_mapv (l : List (K × V)) (k : K) : ahas (mapv g l) k = ahas l k := by
  induction l with
  | nil => rfl
  | cons p r ih =>
    obtain ⟨k', v⟩ := p
    by_cases h : k = k'
    · simp [mapv, ahas, h]
    · simp only [mapv, List.map_cons, ahas, h, if_false]; exact ih
theorem aput_mapv (l : List (K × V)) (k : K) (v : V) : aput (mapv g l) k (g v) = mapv g (aput l k v) := by
  induction l with
  | nil => rfl
  | cons p r ih =>
    obtain ⟨k', v'⟩ := p
    by_cases h : k = k'
    · simp [mapv, aput, h]
    · simp only [mapv, List.map_cons, aput, h, if_false, List.cons.injEq, true_and]; exact ih
theorem adel_mapv (l : List (K × V)) (k : K) : adel (mapv g l) k = mapv g (adel l k) := by
  induction l with
  | nil => rfl
  | cons p r ih =>
    obtain ⟨k', v'⟩ := p
    by_cases h : k = k'
    · simp [mapv, adel, h]
    · simp only [mapv, List.map_cons, adel, h, if_false, List.cons.injEq, true_and]; exact ih
theorem mapv_len (l : List (K × V)) : (mapv g l).length = l.length := by simp [mapv]
end
/-- a value is written over that keeps its piece -/
theorem aput_map_same {f : K × V → Ch} {l : List (K × V)} {k : K} {v : V} (z : V) (h : ahas l k = true) (e : f (k, v) = f (k, aget l k z)) : (aput l k v).map f = l.map f := by
  rcases ahas_find l k z with ⟨_, j, h2, h3, _⟩ | ⟨h1, _⟩
  · rw [h3, List.map_set, e]
    apply List.ext_getElem?
    intro i
    rw [List.getElem?_set]
    split
    · rename_i hi
      subst hi
      have hl := (List.getElem?_eq_some_iff.1 h2).1
      simp only [List.length_map, hl, if_true, List.getElem?_map, h2, Option.map_some]
    · rfl
  · rw [h] at h1; cases h1
end rows
section ops
variable {P : Program} {m : List (Nat × Value)} {L : List Ch} {o : Oper} {K V : Type} [DecidableEq K] {enc : K → Value} {encv : V → Value}
theorem eff_mapDelete {t tk kt et : TypeId} {x y : Operand} (i : Nat) {M : Option Nat} {l : List (K × V)} {k : K} (z : V) (ho : o.op = .call { callee := .builtin .delete, args := #[x, y], argTypes := #[t, tk] }) (ht : P.underlying t = some (.map kt et)) (hk : KeyOk P kt enc)
    (hx : ev m x = some (.map M)) (hy : ev m y = some (enc k)) (hL : L[i]? = some (mapc M enc encv l)) :
    Eff P m L o (fun _ : Unit => .tuple #[]) (fun _ => L.set i (mapc M enc encv (adel l k))) (fun _ => True) := fun E a w f st => by
  obtain ⟨h1', hle, ⟨b, es, ck, rfl, h2, h3, h4, h5⟩, hup⟩ := Sats.upd hL st.heap
  have h2' : w.heap[b]? = some (.map es ck) := hle _ _ h2
  have hg : (getObj b).run P w = .ok (.map es ck) w := by simp [getObj, Sem.run, h2']
  have hso : ∀ o', (setObj b o').run P w = .ok () { w with heap := w.heap.setIfInBounds b o' } := fun o' => by simp [setObj, Sem.run, h2']
  have hf := hk.find encv k l es.toList w h3
  have hlen : es.size = l.length := by have := congrArg List.length h3; simpa using this
  rcases afind_has encv z l k 0 with ⟨hn, j, hj, hjl, hjk, _, hdel⟩ | ⟨hn, hj, hdel⟩
  · rw [Nat.zero_add] at hj
    have hjs : j < es.size := by omega
    have htl : (es.eraseIdxIfInBounds j).toList = es.toList.eraseIdx j := by
      rw [Array.eraseIdxIfInBounds, dif_pos hjs]; simp
    have hmp : ∀ {β : Type} (g : MapEntry → β), (es.toList.eraseIdx j).map g = (es.toList.map g).eraseIdx j := fun g => by
      apply List.ext_getElem?
      intro q
      simp only [List.getElem?_eraseIdx, List.getElem?_map]
      split <;> rfl
    refine .inl ⟨(), { w with heap := w.heap.setIfInBounds b (.map (es.eraseIdxIfInBounds j) ck) }, trivial, ⟨st.os, st.tape, st.output, ?_⟩, .inl ?_⟩
    · rw [hp_setObj h2']
      refine hup _ b _ (by rw [h2]; simp) ⟨b, _, ck, rfl, upd_same _ _ _, ?_, ?_, ?_⟩
      · rw [htl, hmp, h3, hdel]
        apply List.ext_getElem?
        intro q
        simp only [List.getElem?_eraseIdx, List.getElem?_map]
        split <;> rfl
      · intro e he
        rw [htl] at he
        exact h4 e (List.mem_of_mem_eraseIdx he)
      · rw [htl, hmp]
        exact h5.sublist (List.eraseIdx_sublist _ _)
    · simp [execOp, ho, f _ _ hx, f _ _ hy, resolve, invoke, builtin, Builtin.delete_, run_underlying ht, hg, hk.check, hf, hj, hso]
  · refine .inl ⟨(), { w with heap := w.heap.setIfInBounds b (.map es ck) }, trivial, ⟨st.os, st.tape, st.output, ?_⟩, .inl ?_⟩
    · rw [hp_setObj h2', hdel]
      exact hup _ b _ (by rw [h2]; simp) ⟨b, es, ck, rfl, upd_same _ _ _, h3, h4, h5⟩
    · simp [execOp, ho, f _ _ hx, f _ _ hy, resolve, invoke, builtin, Builtin.delete_, run_underlying ht, hg, hk.check, hf, hj, hso]
/-! ### ranges over a map -/
def bornAt (es : Array MapEntry) (i : Nat) : Nat := ((es[i]?).map (·.born)).getD 0
/-- a map that is being ranged over, the entries number is gone through -/
def mapit {K V : Type} (it : Nat) (M : Option Nat) (enc : K → Value) (encv : V → Value) (l : List (K × V)) (is : List Nat) : Ch := fun h =>
  ∃ b es clock, M = some b ∧ h b = some (.map es clock) ∧ es.toList.map (fun e => (e.key, e.val)) = l.map (fun p => (enc p.1, encv p.2)) ∧ (∀ e ∈ es.toList, e.born < clock) ∧ (es.toList.map (·.born)).Nodup ∧
    h it = some (.mapIter (some b) clock (is.map (bornAt es)).toArray clock) ∧ is.Nodup ∧ ∀ i ∈ is, i < l.length
theorem mapit_mapc {it : Nat} {M : Option Nat} {l : List (K × V)} {is : List Nat} {h : Hp} (c : mapit it M enc encv l is h) : mapc M enc encv l h := by
  obtain ⟨b, es, ck, h1, h2, h3, h4, h5, _⟩ := c
  exact ⟨b, es, ck, h1, h2, h3, h4, h5⟩
theorem eff_range {t kt et : TypeId} {x : Operand} (i : Nat) {M : Option Nat} {l : List (K × V)} (ho : o.op = .range t x) (ht : P.underlying t = some (.map kt et)) (hx : ev m x = some (.map M)) (hL : L[i]? = some (mapc M enc encv l)) :
    Eff P m L o (fun it : Nat => .pointer (some ⟨it, 0, none⟩)) (fun it => mapit it M enc encv l [] :: L.eraseIdx i) (fun _ => True) := fun E a w f st => by
  obtain ⟨h1', hle, ⟨b, es, ck, rfl, h2, h3, h4, h5⟩, _⟩ := Sats.upd hL st.heap
  have h2' : w.heap[b]? = some (.map es ck) := hle _ _ h2
  have s1 := st.alloc (.mapIter (some b) ck #[] ck) (fun h => h w.heap.size = some (.mapIter (some b) ck #[] ck)) (fun h e => e)
  have s2 : Sat E (w.alloc (.mapIter (some b) ck #[] ck)) ((fun h => h w.heap.size = some (.mapIter (some b) ck #[] ck)) :: (fun h => h b = some (.map es ck)) :: L.eraseIdx i) := by
    obtain ⟨g1, g2, x1, x2, x3, p, q⟩ := s1.heap
    refine ⟨s1.os, s1.tape, s1.output, g1, g2, x1, x2, x3, p, ?_⟩
    obtain ⟨k1, k2, y1, y2, y3, ⟨b', es', ck', e1, e2, _⟩, r⟩ := Sats.pull i hL q
    cases e1
    refine ⟨k1, k2, y1, y2, y3, ?_, r⟩
    -- the map's block is the one that was
    have hb1 : (w.alloc (.mapIter (some b) ck #[] ck)).heap[b]? = some (.map es' ck') := x2 _ _ (y1 _ _ e2)
    have hb2 : (w.alloc (.mapIter (some b) ck #[] ck)).heap[b]? = some (.map es ck) := hp_alloc_le w _ _ _ h2'
    rw [hb2] at hb1
    cases hb1
    exact e2
  refine .inl ⟨w.heap.size, _, trivial, ⟨s2.os, s2.tape, s2.output, ?_⟩, .inl ?_⟩
  · refine Sats.cat_shut' (A := [_, _]) (fun h c => ?_) s2.heap
    obtain ⟨g1, g2, x1, x2, x3, p, k1, k2, y1, y2, y3, q, _⟩ := c
    exact ⟨b, es, ck, rfl, x2 _ _ (y1 _ _ q), h3, h4, h5, x1 _ _ p, by simp, by simp⟩
  · simp [execOp, ho, f _ _ hx, run_range_map w t kt et b es ck ht h2']
theorem eff_next {t : TypeId} {x : Operand} (i : Nat) {it : Nat} {M : Option Nat} {l : List (K × V)} {is : List Nat} (d : K × V) (ho : o.op = .next x false) (hx : ev m x = some (.pointer (some ⟨it, 0, none⟩))) (hL : L[i]? = some (mapit it M enc encv l is)) :
    Eff P m L o (fun q : Option Nat => match q with | none => .tuple #[.bool false] | some j => .tuple #[.bool true, enc (l.getD j d).1, encv (l.getD j d).2])
      (fun q => L.set i (mapit it M enc encv l (match q with | none => is | some j => is ++ [j])))
      (fun q => match q with | none => ∀ j, j < l.length → j ∈ is | some j => j < l.length ∧ ¬ j ∈ is) := fun E a w f st => by
  obtain ⟨h1', hle, ⟨b, es, ck, rfl, h2, h3, h4, h5, h6, h7, h8⟩, hup⟩ := Sats.upd hL st.heap
  have hlen : es.size = l.length := by have := congrArg List.length h3; simpa using this
  have hseen : ∀ j, j < es.size → ((is.map (bornAt es)).toArray.contains (bornAt es j) = true ↔ j ∈ is) := fun j hj => by
    simp only [List.contains_toArray, List.contains_iff_mem, List.mem_map]
    constructor
    · rintro ⟨j', hj', e⟩
      have hj2 : j' < es.size := by have := h8 j' hj'; omega
      have e1 : (es.toList.map (·.born))[j']? = some (bornAt es j') := by simp [bornAt, hj2]
      have e2 : (es.toList.map (·.born))[j]? = some (bornAt es j') := by rw [e]; simp [bornAt, hj]
      have : j' = j := by
        have a1 := List.getElem?_eq_some_iff.1 e1
        have a2 := List.getElem?_eq_some_iff.1 e2
        obtain ⟨b1, c1⟩ := a1
        obtain ⟨b2, c2⟩ := a2
        exact (List.getElem_inj h5).1 (c1.trans c2.symm)
      rw [← this]; exact hj'
    · exact fun h => ⟨j, h, rfl⟩
  have hr := run_next_at (P := P) w o.type it b ck ck (is.map (bornAt es)).toArray es ck (hle _ _ h6) (hle _ _ h2) h4 (Nat.le_refl _)
  rcases hr with ⟨hs, hr⟩ | ⟨e, he, w1, hw1, hr⟩
  · refine .inl ⟨none, w, ?_, ?_, .inl ?_⟩
    · intro j hj
      have hjs : j < es.size := by omega
      by_cases hm : j ∈ is
      · exact hm
      · exfalso
        have hmem : es[j] ∈ (leftOf es (is.map (bornAt es)).toArray).toList := by
          unfold leftOf
          simp only [Array.toList_filter, List.mem_filter, Array.mem_toList_iff, Array.getElem_mem, true_and, Bool.not_eq_true']
          have hc := mt (hseen j hjs).1 hm
          have hb : bornAt es j = es[j].born := by simp [bornAt, hjs]
          rw [hb] at hc
          simpa using hc
        have : (leftOf es (is.map (bornAt es)).toArray).toList = [] := by
          apply List.eq_nil_of_length_eq_zero; simpa using hs
        rw [this] at hmem; cases hmem
    · have : L.set i (mapit it (some b) enc encv l is) = L := by
        apply List.ext_getElem?
        intro j
        rw [List.getElem?_set]
        split
        · rename_i e; subst e
          have := (List.getElem?_eq_some_iff.1 hL).1
          rw [hL]; simp [this]
        · rfl
      show Sat E w (L.set i (mapit it (some b) enc encv l is))
      rw [this]; exact st
    · simp only [execOp, ho, f _ _ hx]
      rw [Sem.run_bind, hr]; rfl
  · unfold leftOf at he
    simp only [Array.toList_filter, List.mem_filter, Bool.not_eq_true'] at he
    obtain ⟨he1, he2⟩ := he
    obtain ⟨j, hj, hej⟩ := List.mem_iff_getElem.1 he1
    have hjs : j < es.size := by simpa using hj
    have hje : es[j] = e := by simpa using hej
    have hb : bornAt es j = e.born := by simp [bornAt, hjs, hje]
    have hnot : ¬ j ∈ is := fun hm => by
      have := (hseen j hjs).2 hm
      rw [hb, he2] at this; cases this
    have hkv : e.key = enc (l.getD j d).1 ∧ e.val = encv (l.getD j d).2 := by
      have := congrArg (fun l => l[j]?) h3
      simp only [List.getElem?_map] at this
      rw [List.getElem?_eq_getElem hj, List.getElem?_eq_getElem (show j < l.length by omega), hej] at this
      simp only [Option.map_some, Option.some.injEq, Prod.mk.injEq] at this
      have hgd : l.getD j d = l[j]'(by omega) := by simp [show j < l.length by omega]
      rw [hgd]; exact this
    refine .inl ⟨some j, Go.ChangeMaps.setBlock w1 it (.mapIter (some b) ck ((is.map (bornAt es)).toArray.push e.born) ck), ⟨by omega, hnot⟩, ?_, .inl ?_⟩
    rotate_left
    · simp only [execOp, ho, f _ _ hx]
      rw [Sem.run_bind, hr, hkv.1, hkv.2]; rfl
    · have st1 : Sat E w1 L := by
        rcases hw1 with rfl | rfl
        · exact st
        · exact st.drew
      obtain ⟨g1, gle, ⟨b', es', ck', e1, k2, k3, k4, k5, k6, k7, k8⟩, gup⟩ := Sats.upd hL st1.heap
      cases e1
      have hh1 : hp w1 = hp w := by rcases hw1 with rfl | rfl <;> rfl
      have ees : es' = es ∧ ck' = ck := by
        have a1 : hp w1 b = some (.map es' ck') := gle _ _ k2
        have a2 : hp w b = some (.map es ck) := hle _ _ h2
        rw [hh1, a2] at a1
        cases a1; exact ⟨rfl, rfl⟩
      obtain ⟨rfl, rfl⟩ := ees
      have hit : w1.heap[it]? = some (.mapIter (some b) ck' (is.map (bornAt es')).toArray ck') := gle _ _ k6
      have hne : b ≠ it := fun e => by subst e; rw [k2] at k6; cases k6
      refine ⟨st1.os, st1.tape, st1.output, ?_⟩
      show Sats _ (hp { w1 with heap := w1.heap.setIfInBounds it _ })
      rw [hp_setObj hit]
      refine gup _ it _ (by rw [k6]; simp) ⟨b, es', ck', rfl, by rw [upd_other _ _ hne]; exact k2, k3, k4, k5, ?_, ?_, ?_⟩
      · rw [upd_same, ← hb]
        simp
      · show (is ++ [j]).Nodup
        rw [List.nodup_append]
        exact ⟨k7, by simp, fun x hx y hy => by simp at hy; subst hy; intro e; subst e; exact hnot hx⟩
      · show ∀ x ∈ is ++ [j], x < l.length
        intro x hx
        rcases List.mem_append.1 hx with hx | hx
        · exact k8 x hx
        · simp at hx; omega
theorem val_entry {x : Operand} (i : Nat) {it : Nat} {M : Option Nat} {l : List (K × V)} {is : List Nat} {j : Nat} (d : K × V) (ho : o.op = .entry x) (hx : ev m x = some (.pointer (some ⟨it, 0, none⟩))) (hL : L[i]? = some (mapit it M enc encv l (is ++ [j]))) :
    Val P m L o (.tuple #[enc (l.getD j d).1, encv (l.getD j d).2]) := fun a w f st => by
  obtain ⟨h1', hle, ⟨b, es, ck, rfl, h2, h3, h4, h5, h6, h7, h8⟩, _⟩ := Sats.upd hL st
  have hlen : es.size = l.length := by have := congrArg List.length h3; simpa using this
  have hj : j < l.length := h8 j (by simp)
  have hjs : j < es.size := by omega
  have hkv : es[j].key = enc (l.getD j d).1 ∧ es[j].val = encv (l.getD j d).2 := by
    have := congrArg (fun l => l[j]?) h3
    simp only [List.getElem?_map] at this
    rw [List.getElem?_eq_getElem (by simpa using hjs), List.getElem?_eq_getElem hj] at this
    simp only [Option.map_some, Option.some.injEq, Prod.mk.injEq, Array.getElem_toList] at this
    have hgd : l.getD j d = l[j] := by simp [hj]
    rw [hgd]; exact this
  have h6' : w.heap[it]? = some (.mapIter (some b) ck (((is.map (bornAt es)).toArray).push es[j].born) ck) := by
    have := hle _ _ h6
    have e : ((is ++ [j]).map (bornAt es)).toArray = ((is.map (bornAt es)).toArray).push es[j].born := by simp [bornAt, hjs]
    rw [e] at this; exact this
  have hr := run_entry_at (P := P) w it b ck (is.map (bornAt es)).toArray es ck es[j] h6' (hle _ _ h2) (by simp) h5
  simp only [execOp, ho, f _ _ hx]
  rw [Sem.run_bind, hr, hkv.1, hkv.2]; rfl
/-- all entries were gone through: the order is a permutation -/
theorem is_perm {n : Nat} {is : List Nat} (h1 : is.Nodup) (h2 : ∀ i ∈ is, i < n) (h3 : ∀ j, j < n → j ∈ is) : is.Perm (List.range n) := by
  refine (List.perm_ext_iff_of_nodup h1 List.nodup_range).2 fun a => ?_
  simp only [List.mem_range]
  exact ⟨h2 a, h3 a⟩
end ops
end Go.Proofs.Eng
