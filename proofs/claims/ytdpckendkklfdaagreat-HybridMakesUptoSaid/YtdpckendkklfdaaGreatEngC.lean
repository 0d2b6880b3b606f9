/- The engine, part 3: operations that write or make memory. -/
import Derived.Test.YtdpckendkklfdaaGreatEngB
import Derived.MapKept
set_option linter.unusedVariables false
set_option linter.unusedSimpArgs false
namespace Go.Proofs.Eng
open Go.RowKit

/-! ### Memory with one block turned -/
def upd (h : Hp) (b : Nat) (o : Obj) : Hp := fun x => if x = b then some o else h x
theorem upd_same (h : Hp) (b : Nat) (o : Obj) : upd h b o b = some o := by simp [upd]
theorem upd_other (h : Hp) {b x : Nat} (o : Obj) (e : x ≠ b) : upd h b o x = h x := by simp [upd, e]
/-- The piece number i is turned at one of its blocks. -/
theorem Sats.upd {i : Nat} {L : List Ch} {c : Ch} {h : Hp} (e : L[i]? = some c) (s : Sats L h) :
    ∃ h1, Le h1 h ∧ c h1 ∧ ∀ (c' : Ch) (b : Nat) (o : Obj), h1 b ≠ none → c' (upd h1 b o) → Sats (L.set i c') (upd h b o) := by
  obtain ⟨h1, h2, a, k, d, p, q⟩ := Sats.pull i e s
  refine ⟨h1, a, p, fun c' b o hb hc => ?_⟩
  refine Sats.push i e ⟨Eng.upd h1 b o, h2, ?_, ?_, ?_, hc, q⟩
  · intro x u hx
    by_cases hxb : x = b
    · subst hxb; rw [upd_same] at hx ⊢; exact hx
    · rw [upd_other _ _ hxb] at hx ⊢; exact a x u hx
  · intro x u hx
    have hxb : x ≠ b := fun hxb => by
      subst hxb
      rcases d x with g | g
      · exact hb g
      · rw [g] at hx; cases hx
    rw [upd_other _ _ hxb]; exact k x u hx
  · intro x
    by_cases hxb : x = b
    · subst hxb
      rcases d x with g | g
      · exact absurd g hb
      · exact .inr g
    · rw [upd_other _ _ hxb]; exact d x
theorem hp_setRow {w : World} {b : Nat} {cur cs : Array Value} {t : TypeId} {fr : Nat × Nat} (h : w.heap[b]? = some (.cells cur t fr)) : hp (w.setRow b cs) = upd (hp w) b (.cells cs t fr) := by
  funext x
  by_cases hx : x = b
  · subst hx; rw [upd_same]; exact setRow_heap w x cur cs t fr h
  · rw [upd_other _ _ hx]; exact setRow_other w b x cs hx
theorem hp_setObj {w : World} {b : Nat} {o o' : Obj} (h : w.heap[b]? = some o) : hp { w with heap := w.heap.setIfInBounds b o' } = upd (hp w) b o' := by
  funext x
  have hb : b < w.heap.size := (Array.getElem?_eq_some_iff.1 h).1
  by_cases hx : x = b
  · subst hx; rw [upd_same]; simp [hp, hb]
  · rw [upd_other _ _ hx]; simp [hp, Array.getElem?_setIfInBounds_ne (Ne.symm hx)]
/-- vs in the place of what stands at k -/
def splice (xs : List Value) (k : Nat) (vs : List Value) : List Value := xs.take k ++ vs ++ xs.drop (k + vs.length)
theorem splice_length {xs vs : List Value} {k : Nat} (h : k + vs.length ≤ xs.length) : (splice xs k vs).length = xs.length := by
  simp only [splice, List.length_append, List.length_take, List.length_drop]; omega
theorem splice_one {xs : List Value} {k : Nat} {v : Value} (h : k < xs.length) : splice xs k [v] = xs.set k v := by
  rw [splice, List.set_eq_take_append_cons_drop, if_pos h]; simp
theorem splice_append {xs vs rest : List Value} {k : Nat} (h : k + vs.length ≤ xs.length) : splice (xs ++ rest) k vs = splice xs k vs ++ rest := by
  simp only [splice]
  rw [List.take_append_of_le_length (by omega), List.drop_append_of_le_length (by omega)]
  simp
theorem splice_whole {xs vs : List Value} (h : vs.length = xs.length) : splice xs 0 vs = vs := by
  simp [splice, h]

section effs
variable {P : Program} {m : List (Nat × Value)} {L : List Ch} {o : Oper}
/-- The one new piece of a new row. -/
theorem own_new {w : World} {cs : List Value} {t : TypeId} {n s : Nat} (h1 : cs.length = n * s) (h2 : n ≤ maxLen) : ∀ h : Hp, h w.heap.size = some (.cells cs.toArray t (0, 0)) → own (some ⟨w.heap.size, 0, none⟩) n n t s cs h :=
  fun h e => ⟨by omega, Nat.le_refl _, h2, .inr ⟨_, [], rfl, by simpa using e, by simpa using h1⟩⟩
/-- a new variable, zero -/
theorem eff_alloc {t : TypeId} {z : List Value} (ho : o.op = .alloc t) (hz : (P.info? t).map (fun i => (i.zero.map (fun v => v.cells.toList))) = some (some z)) :
    Eff P m L o (fun b : Nat => ptr (some ⟨b, 0, none⟩) 0) (fun b => own (some ⟨b, 0, none⟩) 1 1 t z.length z :: L) (fun _ => True) := fun E a w f s => by
  obtain ⟨i, hi, hz1⟩ := Option.map_eq_some_iff.1 hz
  obtain ⟨v, hv, hz2⟩ := Option.map_eq_some_iff.1 hz1
  refine .inl ⟨w.heap.size, w.alloc (.cells v.cells t), trivial, s.alloc _ _ ?_, .inl ?_⟩
  · have e : v.cells = z.toArray := by rw [← hz2]
    rw [e]
    exact own_new (by simp) (by simp [maxLen])
  · show _ = Result.ok (Next.value (ptr (some ⟨w.heap.size, 0, none⟩) 0)) _
    rw [ptr_some, addr_mk]
    simp [execOp, ho, Instr.alloc, zeroValue, typeInfo, hi, hv, newVar, newRow]
theorem eff_box {t : TypeId} {x : Operand} {v : Value} {z : List Value} (ho : o.op = .box t x) (hx : ev m x = some v) (hz : v.cells = z.toArray) :
    Eff P m L o (fun b : Nat => ptr (some ⟨b, 0, none⟩) 0) (fun b => own (some ⟨b, 0, none⟩) 1 1 t z.length z :: L) (fun _ => True) := fun E a w f s => by
  refine .inl ⟨w.heap.size, w.alloc (.cells v.cells t), trivial, s.alloc _ _ ?_, .inl ?_⟩
  · rw [hz]; exact own_new (by simp) (by simp [maxLen])
  · show _ = Result.ok (Next.value (ptr (some ⟨w.heap.size, 0, none⟩) 0)) _
    rw [ptr_some, addr_mk]
    simp [execOp, ho, f _ _ hx, Instr.box, newVar, newRow]
/-- a store into a row of ours -/
theorem eff_store {t : TypeId} {x y : Operand} (i : Nat) {A : Option Addr} {n cap s k : Nat} {T : TypeId} {xs vs : List Value} {v : Value} (ho : o.op = .store t x y) (hx : ev m x = some (ptr A k)) (hy : ev m y = some v)
    (hL : L[i]? = some (own A n cap T s xs)) (hv : v.cells = vs.toArray) (hz : (P.info? t).map (fun i => i.size) = some vs.length) (h1 : vs.all (·.oneCell') = true) (hk : k + vs.length ≤ xs.length) (hp0 : 0 < vs.length) :
    Eff P m L o (fun _ : Unit => undef) (fun _ => L.set i (own A n cap T s (splice xs k vs))) (fun _ => True) := fun E a w f st => by
  obtain ⟨h1', hle, hown, hup⟩ := Sats.upd hL st.heap
  obtain ⟨ha, hb, hc, hd⟩ := hown
  rcases hd with ⟨_, _, rfl⟩ | ⟨b, rest, rfl, hcell, hlen⟩
  · simp only [List.length_nil] at hk; omega
  · have hw : w.heap[b]? = some (.cells (xs ++ rest).toArray T (0, 0)) := hle b _ hcell
    have hx' := f _ _ hx
    rw [ptr_some, addr_mk, Nat.zero_add] at hx'
    have hvs : ∀ v ∈ vs, v.oneCell' = true := fun v hv => List.all_eq_true.1 h1 v hv
    have hrun := run_storeCells_at P b k T vs 0 _ w hw (by simp; omega) hvs
    simp only [Nat.add_zero] at hrun
    have ec : ((xs ++ rest).toArray.toList.take k ++ vs ++ (xs ++ rest).toArray.toList.drop (k + vs.length)) = splice xs k vs ++ rest := by
      rw [← splice_append hk]; rfl
    rw [ec] at hrun
    refine .inl ⟨(), w.setRow b (splice xs k vs ++ rest).toArray, trivial, ⟨st.os, st.tape, st.output, ?_⟩, .inr ⟨?_, rfl⟩⟩
    · rw [hp_setRow hw]
      refine hup _ b _ (by rw [hcell]; simp) ⟨by rw [splice_length hk]; exact ha, hb, hc, .inr ⟨b, rest, rfl, upd_same _ _ _, ?_⟩⟩
      simpa [splice_length hk] using hlen
    · obtain ⟨info, e4, e5⟩ := Option.map_eq_some_iff.1 hz
      simp [execOp, ho, hx', f _ _ hy, Instr.storeAt, Instr.sureAddr, storeVar, hv, sizeOf, typeInfo, e4, e5, hrun]
/-- a store into the whole of a variable -/
theorem eff_storeW {t : TypeId} {x y : Operand} (i : Nat) {A : Option Addr} {n cap s : Nat} {T : TypeId} {xs vs : List Value} {v : Value} (ho : o.op = .store t x y) (hx : ev m x = some (ptr A 0)) (hy : ev m y = some v)
    (hL : L[i]? = some (own A n cap T s xs)) (hv : v.cells = vs.toArray) (hz : (P.info? t).map (fun i => i.size) = some vs.length) (h1 : vs.all (·.oneCell') = true) (hk : Nat.beq vs.length xs.length = true) (hp0 : Nat.blt 0 vs.length = true) :
    Eff P m L o (fun _ : Unit => undef) (fun _ => L.set i (own A n cap T s vs)) (fun _ => True) := by
  have hl : vs.length = xs.length := Nat.eq_of_beq_eq_true hk
  have h := eff_store (m := m) (L := L) i ho hx hy hL hv hz h1 (by omega) (by simpa using hp0)
  rw [splice_whole hl] at h
  exact h
/-- make(map) -/
def mp {K : Type} (M : Option Nat) (enc : K → Value) (l : List (K × Value)) : Ch := fun h =>
  ∃ b es clock, M = some b ∧ h b = some (.map es clock) ∧ es.toList.map (fun e => (e.key, e.val)) = l.map (fun p => (enc p.1, p.2)) ∧ (∀ e ∈ es.toList, e.born < clock) ∧ (es.toList.map (·.born)).Nodup
theorem eff_makeMap {K : Type} (enc : K → Value) {t : TypeId} (ho : o.op = .makeMap t none) : Eff P m L o (fun b : Nat => .map (some b)) (fun b => mp (some b) enc [] :: L) (fun _ => True) := fun E a w f s => by
  refine .inl ⟨w.heap.size, w.alloc (.map #[] 0), trivial, s.alloc _ _ ?_, .inl ?_⟩
  · exact fun h e => ⟨_, #[], 0, rfl, e, by simp, by simp, by simp⟩
  · simp [execOp, ho, Instr.makeMap]
/-- filling places, as lists -/
def fillL (place : Nat → Nat) (z : List Value) : List (Nat × Value) → List Value
  | [] => z
  | (i, v) :: r => fillL place (splice z (place i) v.cells.toList) r
theorem set_fold (off : Nat) : ∀ (vs : List Value) (j : Nat) (z : Array Value), off + j + vs.length ≤ z.size →
    (vs.zipIdx j).foldl (fun (cs : Array Value) (p : Value × Nat) => cs.setIfInBounds (off + p.2) p.1) z = (splice z.toList (off + j) vs).toArray
  | [], j, z, _ => by simp [splice]
  | v :: vs, j, z, h => by
    simp only [List.length_cons] at h
    rw [List.zipIdx_cons, List.foldl_cons, set_fold off vs (j + 1) _ (by simp; omega)]
    congr 1
    have hlt : off + j < z.toList.length := by simp; omega
    simp only [Array.toList_setIfInBounds, splice, List.length_cons]
    rw [List.drop_set_of_lt (by omega), show off + (j + 1) = off + j + 1 from by omega, List.take_succ_eq_append_getElem (by simpa using hlt), List.take_set_of_le (Nat.le_refl _)]
    simp
    congr 1
    omega
theorem fill_spec {place : Nat → Option (Nat × Nat)} {pl : Nat → Nat} : ∀ (parts : List (Nat × Value)) (z : Array Value), (∀ p ∈ parts, ∃ sz, place p.1 = some (pl p.1, sz) ∧ p.2.cells.size = sz ∧ pl p.1 + sz ≤ z.size) →
    Instr.fill place z parts = some (fillL pl z.toList parts).toArray
  | [], z, _ => by simp [Instr.fill, fillL]
  | (i, v) :: r, z, h => by
    obtain ⟨sz, h1, h2, h3⟩ := h (i, v) (by simp)
    dsimp only at h1 h2 h3
    have hl : v.cells.toList.length = sz := by simpa using h2
    simp only [Instr.fill, h1, fillL]
    rw [if_neg (by simp; omega)]
    have hfold : v.cells.zipIdx.foldl (fun (cs : Array Value) (p : Value × Nat) => cs.setIfInBounds (pl i + p.2) p.1) z = (splice z.toList (pl i) v.cells.toList).toArray := by
      rw [← Array.foldl_toList, Array.toList_zipIdx, set_fold (pl i) v.cells.toList 0 z (by omega)]
      simp
    have hsz : (splice z.toList (pl i) v.cells.toList).length = z.size := by rw [splice_length (by simp; omega)]; simp
    have := fill_spec r (splice z.toList (pl i) v.cells.toList).toArray fun p hp => by
      obtain ⟨sz', g1, g2, g3⟩ := h p (by simp [hp])
      exact ⟨sz', g1, g2, by simpa [hsz] using g3⟩
    rw [show (v.cells.zipIdx.foldl (fun cs (c, j) => cs.setIfInBounds (pl i + j) c) z) = _ from hfold, this]
theorem fill_full (sz : Nat) : ∀ (us : List Value) (k : Nat) (z : List Value), (∀ u ∈ us, u.cells.size = sz) → (k + us.length) * sz ≤ z.length →
    fillL (fun i => i * sz) z ((List.range' k us.length).zip us) = z.take (k * sz) ++ us.flatMap (·.cells.toList) ++ z.drop ((k + us.length) * sz)
  | [], k, z, _, _ => by simp [fillL]
  | u :: us, k, z, h, hz => by
    have hu : u.cells.toList.length = sz := by simpa using h u (by simp)
    simp only [List.length_cons] at hz
    have e0 : (k + (us.length + 1)) * sz = k * sz + sz + us.length * sz := by rw [Nat.add_mul, Nat.add_mul]; omega
    have hk : k * sz + u.cells.toList.length ≤ z.length := by omega
    rw [List.length_cons, List.range'_succ, List.zip_cons_cons, fillL, fill_full sz us (k + 1) _ (fun x hx => h x (by simp [hx])) (by rw [splice_length hk]; rw [show k + 1 + us.length = k + (us.length + 1) from by omega]; exact hz)]
    have e1 : (k + 1) * sz = k * sz + sz := by rw [Nat.add_mul]; omega
    have e2 : (k + 1 + us.length) * sz = k * sz + sz + us.length * sz := by rw [Nat.add_mul, Nat.add_mul]; omega
    have l1 : (z.take (k * sz)).length = k * sz := by simp; omega
    rw [e1, e2, e0]
    simp only [splice, hu, List.flatMap_cons, List.append_assoc]
    rw [List.take_append, List.take_append, List.drop_append, List.drop_append, l1, hu]
    simp only [List.take_of_length_le (show (z.take (k * sz)).length ≤ k * sz + sz by omega), Nat.add_sub_cancel_left, List.take_of_length_le (show u.cells.toList.length ≤ sz by omega), Nat.sub_self, List.take_zero, List.append_nil]
    rw [List.drop_eq_nil_of_le (show (z.take (k * sz)).length ≤ _ by omega), List.drop_eq_nil_of_le (show u.cells.toList.length ≤ _ by omega)]
    simp only [List.nil_append, List.append_assoc, List.drop_drop]
    congr 4
    omega
theorem evs_zip {a : Act} {m : List (Nat × Value)} (f : Evs a m) : ∀ (ps : List (Nat × Operand)) (us : List Value), evs m (ps.map (·.2)) = some us → ps.map (fun p => (p.1, a.eval p.2)) = (ps.map (·.1)).zip us := by
  intro ps
  induction ps with
  | nil => intro us h; simp [evs] at h; subst h; simp
  | cons p ps ih =>
    intro us h
    simp only [List.map_cons, evs] at h
    split at h
    · rename_i v us' e1 e2
      simp at h; subst h
      simp [f _ _ e1, ih _ e2]
    · cases h
/-- A literal, all of whose elements are given: a new row. -/
theorem eff_buildSlice {t e : TypeId} {len sz : Nat} {z : Array Value} {parts : Array (Nat × Operand)} {us : List Value} {cs : List Value} (ho : o.op = .buildSlice t len parts) (ht : P.underlying t = some (.slice e)) (hz : (P.info? e).map (fun i => (i.size, i.zero.map (fun v => v.cells))) = some (sz, some z))
    (hp : evs m (parts.toList.map (·.2)) = some us) (hidx : parts.toList.map (·.1) = List.range' 0 us.length) (hul : us.length = len) (hlen : len * sz ≤ 16777216) (hpos : 0 < len * sz)
    (hus : us.all (fun u => Nat.beq u.cells.size sz) = true) (hcs : us.flatMap (·.cells.toList) = cs) :
    Eff P m L o (fun b : Nat => .slice (some ⟨b, 0, none⟩) len len) (fun b => own (some ⟨b, 0, none⟩) len len e sz cs :: L) (fun _ => True) := fun E a w f s => by
  obtain ⟨i, hi, hz1⟩ := Option.map_eq_some_iff.1 hz
  simp only [Prod.mk.injEq] at hz1
  obtain ⟨hs, hz2⟩ := hz1
  obtain ⟨v, hv, hz3⟩ := Option.map_eq_some_iff.1 hz2
  have hne : ¬ len * sz = 0 := by omega
  have hnl : ¬ 16777216 < len * sz := by omega
  have hsz1 : 1 ≤ sz := by
    rcases Nat.eq_zero_or_pos sz with h | h
    · subst h; simp at hpos
    · exact h
  have hlm : len ≤ maxLen := by
    have : len * 1 ≤ len * sz := Nat.mul_le_mul_left _ hsz1
    simp only [maxLen]; omega
  have hall : ∀ u ∈ us, u.cells.size = sz := fun u hu => by simpa using List.all_eq_true.1 hus u hu
  have hcl : cs.length = len * sz := by
    rw [← hcs, ← hul]
    clear hp hidx hul hcs hus
    induction us with
    | nil => simp
    | cons u us ih =>
      simp only [List.flatMap_cons, List.length_append, List.length_cons, Nat.add_mul, Nat.one_mul]
      rw [ih fun u hu => hall u (by simp [hu])]
      have := hall u (by simp)
      simp [this]; omega
  refine .inl ⟨w.heap.size, w.alloc (.cells cs.toArray e), trivial, s.alloc _ _ (own_new hcl hlm), .inl ?_⟩
  have hfill : ∀ zz : Array Value, zz.size = len * sz → Instr.fill (fun i => some (i * sz, sz)) zz (parts.toList.map (fun p => (p.1, a.eval p.2))) = some cs.toArray := fun zz hzz => by
    rw [evs_zip f _ _ hp, hidx, fill_spec (pl := fun i => i * sz), fill_full sz us 0 _ hall (by rw [Nat.zero_add, hul]; simp; omega)]
    · have e1 : zz.toList.drop ((0 + us.length) * sz) = [] := List.drop_eq_nil_of_le (by simp [hul]; omega)
      rw [e1]; simp [hcs]
    · rintro ⟨i, u⟩ hp
      have h1 := List.of_mem_zip hp
      have h2 := List.mem_range'.1 h1.1
      refine ⟨sz, rfl, hall u h1.2, ?_⟩
      obtain ⟨j, hj, rfl⟩ := h2
      show (0 + 1 * j) * sz + sz ≤ zz.size
      rw [hzz, ← hul]
      have : (j + 1) * sz ≤ us.length * sz := Nat.mul_le_mul_right _ (by omega)
      rw [Nat.add_mul] at this
      simpa using this
  simp only [execOp, ho, Instr.buildSlice]
  simp [run_underlying ht, sizeOf, zeroValue, typeInfo, hi, hs, hv, hz3, hne, hnl, newRow]
  rw [hfill _ (by simp)]
  simp
theorem wide_one {need bytes : Nat} (h : (need + need / 4 + 192) * bytes ≤ 281474976710656) (hb : 0 < bytes) : need ≤ 281474976710656 := by
  have : (need + need / 4 + 192) * 1 ≤ (need + need / 4 + 192) * bytes := Nat.mul_le_mul_left _ hb
  omega
theorem Sats.triv {c : Ch} {L : List Ch} {h : Hp} (hc : ∀ h, c h) (s : Sats L h) : Sats (c :: L) h := ⟨fun _ => none, h, fun b o e => (by cases e), Le.refl h, fun _ => .inl rfl, hc _, s⟩
theorem Eff.weak {α : Type} {V : α → Value} {M M' : α → List Ch} {p : α → Prop} (he : Eff P m L o V M p) (f : ∀ x h, Sats (M x) h → Sats (M' x) h) : Eff P m L o V M' p := fun E a w e s => by
  rcases he E a w e s with ⟨x, w', hx, s', r⟩ | ⟨g, args, r, c⟩
  · exact .inl ⟨x, w', hx, s'.to (f x), r⟩
  · exact .inr ⟨g, args, r, c.mono fun e w' ⟨x, h1, h2, h3⟩ => ⟨x, h1, h2, h3.to (f x)⟩⟩
/-- what is left of the row that was -/
def left (A A' : Option Addr) (xs : List Value) : Ch := fun h => A' = A ∨ RdL A xs h
/-- append of a slice to a row of ours: where it moves, the row that was stays as it was -/
theorem eff_appendK {t e : TypeId} {x y : Operand} (i : Nat) {A B : Option Addr} {n cap m' c sz bytes : Nat} {xs ys : List Value} {z : Value} (ho : o.op = .call { callee := .builtin .append, args := #[x, y], argTypes := #[t, t] }) (ht : P.underlying t = some (.slice e))
    (hi : (P.info? e).map (fun i => (i.zero, i.size, i.bytes)) = some (some z, sz, bytes)) (hzs : z.cells.size = sz) (hsz : 0 < sz) (hby : 0 < bytes)
    (hx : ev m x = some (.slice A n cap)) (hy : ev m y = some (.slice B m' c)) (hL : L[i]? = some (own A n cap e sz xs)) (hB : Ent L (RdL B ys)) (hys : m' * sz ≤ ys.length) (h1 : ys.all (·.oneCell') = true)
    (hfit : (n + m' + (n + m') / 4 + 192) * bytes ≤ 281474976710656) :
    Eff P m L o (fun q : Option Addr × Nat => .slice q.1 (n + m') q.2) (fun q => left A q.1 xs :: L.set i (own q.1 (n + m') q.2 e sz (xs.take (n * sz) ++ ys.take (m' * sz)))) (fun _ => True) := fun E a w f st => by
  obtain ⟨info, hinfo, hz0⟩ := Option.map_eq_some_iff.1 hi
  simp only [Prod.mk.injEq] at hz0
  obtain ⟨hz1, hz2, hz3⟩ := hz0
  subst hz2
  subst hz3
  obtain ⟨h1', hle, hown, hup⟩ := Sats.upd hL st.heap
  have hsmall := wide_one hfit hby
  have hvs : ∀ v ∈ ys.take (m' * info.size), v.oneCell' = true := fun v hv => List.all_eq_true.1 h1 v (List.mem_of_mem_take hv)
  have hyl : (ys.take (m' * info.size)).length = m' * info.size := by simp; omega
  have hnews : ∀ (b : Addr), B = some b → ∀ j u, (ys.take (m' * info.size))[j]? = some u → w.cell? (b.add j) = some u := fun b hb j u hu => by
    have hu' : ys[j]? = some u := by
      rw [List.getElem?_take] at hu
      split at hu
      · exact hu
      · cases hu
    obtain ⟨b', e1, e2⟩ := hB _ st.heap j u hu'
    rw [hb] at e1; cases e1
    exact e2
  -- what growing comes to
  have grow : ∀ (old : Nat) (pre : List Value), old < n + m' → pre.length = n * info.size → pre = xs.take (n * info.size) →
      ∃ (x : Option Addr × Nat) (w' : World), w' = w.drew.alloc (.cells (pre.toArray ++ (ys.take (m' * info.size)).toArray ++ Builtin.zeroCells z.cells (grownCap w (n + m') old e - (n + m'))) e) ∧ x = (some ⟨w.heap.size, 0, none⟩, grownCap w (n + m') old e) ∧
        Sat E w' (left A x.1 xs :: L.set i (own x.1 (n + m') x.2 e info.size (xs.take (n * info.size) ++ ys.take (m' * info.size)))) := fun old pre ho hpl hpre => by
    refine ⟨_, _, rfl, rfl, ?_⟩
    have hge := grownCap_ge w (n + m') old e
    have hcm : grownCap w (n + m') old e ≤ maxLen := grownCap_le_maxLen w (n + m') old e (by simp only [maxLen]; omega)
    have s1 : Sat E w.drew L := st.drew
    have s2 := s1.alloc (.cells (pre.toArray ++ (ys.take (m' * info.size)).toArray ++ Builtin.zeroCells z.cells (grownCap w (n + m') old e - (n + m'))) e) (own (some ⟨w.heap.size, 0, none⟩) (n + m') (grownCap w (n + m') old e) e info.size (xs.take (n * info.size) ++ ys.take (m' * info.size))) fun h hh => by
      refine ⟨?_, hge, hcm, .inr ⟨_, (Builtin.zeroCells z.cells (grownCap w (n + m') old e - (n + m'))).toList, rfl, ?_, ?_⟩⟩
      · rw [List.length_append, ← hpre, hpl, hyl, Nat.add_mul]; exact Nat.le_refl _
      · rw [show h w.heap.size = _ from hh]
        congr 2
        apply Array.ext'
        simp [hpre]
      · simp only [List.length_append, Array.length_toList, size_zeroCells, hzs]
        rw [← hpre, hpl, hyl, ← Nat.add_mul, ← Nat.add_mul]
        congr 1; omega
    exact ⟨s2.os, s2.tape, s2.output, Sats.head (fun h o => .inr (own_rd o)) (Sats.under (fun h q => Sats.push i hL q) (Sats.swap (Sats.under (fun h q => Sats.pull i hL q) s2.heap)))⟩
  obtain ⟨ha, hb, hc, hd⟩ := hown
  have hx' := f _ _ hx
  have hy' := f _ _ hy
  have hexec : (execOp a.eval o).run P w = ((Builtin.append_ #[t, t] o.type #[.slice A n cap, .slice B m' c]).run P w).andThen fun v w' => .ok (.value v) w' := by
    simp [execOp, ho, resolve, invoke, builtin, hx', hy']
  by_cases hm0 : m' = 0
  · -- nothing is appended
    subst hm0
    have hrun : (Builtin.append_ #[t, t] o.type #[.slice A n cap, .slice B 0 c]).run P w = .ok (.slice A n cap) w := by
      have hroom : n ≤ cap := hb
      have hfc : (Builtin.firstCells info.size 0 (.slice B 0 c)).run P w = .ok #[] w := by
        cases B with
        | none => simp [Builtin.firstCells]
        | some b => simp [Builtin.firstCells, loadCells, loadCellsFrom]
      cases A with
      | none => simp [Builtin.append_, run_underlying ht, sizeOf, typeInfo, hinfo, Builtin.lenOf, hroom, hfc]
      | some ad => simp [Builtin.append_, run_underlying ht, sizeOf, typeInfo, hinfo, Builtin.lenOf, hroom, hfc, storeCells]
    refine .inl ⟨(A, cap), w, trivial, ?_, .inl ?_⟩
    · refine st.to fun h s => Sats.triv (fun _ => .inl rfl) ?_
      have s1 := Sats.pull i hL s
      refine Sats.push i hL (Sats.head (fun h o => ?_) s1)
      refine ⟨by simp; omega, hb, hc, ?_⟩
      rcases hd with ⟨e1, e2, e3⟩ | ⟨b, rest, e1, e2, e3⟩
      · exact .inl ⟨e1, e2, by simp [e3]⟩
      · rcases o.2.2.2 with ⟨g1, _⟩ | ⟨b', rest', g1, g2, g3⟩
        · rw [e1] at g1; cases g1
        · refine .inr ⟨b', xs.drop (n * info.size) ++ rest', g1, ?_, ?_⟩
          · rw [g2]; congr 3; simp [← List.append_assoc, List.take_append_drop]
          · rw [← g3]; simp [← List.append_assoc, List.take_append_drop]
    · rw [hexec, hrun]; rfl
  · -- something is
    have hpos : 0 < m' := by omega
    obtain ⟨b, rfl⟩ : ∃ b, B = some b := by
      have : 0 < ys.length := by
        have : 1 * info.size ≤ m' * info.size := Nat.mul_le_mul_right _ hpos
        omega
      obtain ⟨b, hb', _⟩ := hB _ st.heap 0 ys[0] (by simp [this])
      exact ⟨b, hb'⟩
    have hnw := hnews b rfl
    rcases hd with ⟨rfl, rfl, rfl⟩ | ⟨g, rest, rfl, hcell, hlen⟩
    · obtain rfl : n = 0 := by omega
      have hr := run_append_nil (P := P) w t o.type e info z ht hinfo hz1 b m' c (ys.take (m' * info.size)) hyl hnw hpos (by simp only [Nat.zero_add] at hsmall; omega) (by
        have h2 := hfit; simp only [Nat.zero_add] at h2
        have : m' * info.bytes ≤ (m' + m' / 4 + 192) * info.bytes := Nat.mul_le_mul_right _ (by omega)
        omega)
      obtain ⟨x, w', hw', hxe, hs⟩ := grow 0 [] (by omega) (by simp) (by simp)
      refine .inl ⟨x, w', trivial, hs, .inl ?_⟩
      rw [hexec, hr, hw', hxe]
      simp
    · have hw : w.heap[g]? = some (.cells (xs ++ rest).toArray e (0, 0)) := hle g _ hcell
      by_cases hroom : n + m' ≤ cap
      · have hfl : n * info.size + (ys.take (m' * info.size)).length ≤ (xs ++ rest).toArray.size := by
          have : (n + m') * info.size ≤ cap * info.size := Nat.mul_le_mul_right _ hroom
          rw [hyl, ← Nat.add_mul]; simp only [List.size_toArray]; omega
        have hr := run_append_room (P := P) w t o.type e info ht hinfo g n cap _ hw b m' c (ys.take (m' * info.size)) hyl hnw hvs hroom hfl
        obtain ⟨w1, hw1⟩ : ∃ w1, w1 = w.setRow g ((xs ++ rest).toArray.toList.take (n * info.size) ++ ys.take (m' * info.size) ++ (xs ++ rest).toArray.toList.drop (n * info.size + (ys.take (m' * info.size)).length)).toArray := ⟨_, rfl⟩
        rw [← hw1] at hr
        have hos : w1.os = w.os := by rw [hw1]; rfl
        have htp : w1.tape = w.tape := by rw [hw1]; rfl
        have hou : w1.output = w.output := by rw [hw1]; rfl
        refine .inl ⟨(some ⟨g, 0, none⟩, cap), w1, trivial, ⟨hos.trans st.os, htp.trans st.tape, hou.trans st.output, ?_⟩, .inl ?_⟩
        rotate_left
        · rw [hexec, hr]; rfl
        · rw [hw1, hp_setRow hw]
          refine Sats.triv (fun _ => .inl rfl) ?_
          refine hup _ g _ (by rw [hcell]; simp) ⟨?_, hroom, hc, .inr ⟨g, (xs ++ rest).drop (n * info.size + m' * info.size), rfl, ?_, ?_⟩⟩
          · rw [List.length_append, hyl, List.length_take, Nat.min_eq_left ha, Nat.add_mul]; exact Nat.le_refl _
          · rw [upd_same]
            congr 3
            rw [hyl, show (xs ++ rest).toArray.toList = xs ++ rest from rfl, List.take_append_of_le_length ha]
          · simp only [List.length_append, hyl, List.length_take, Nat.min_eq_left ha, List.length_drop]
            simp only [List.length_append] at hlen
            have : (n + m') * info.size ≤ cap * info.size := Nat.mul_le_mul_right _ hroom
            rw [Nat.add_mul] at this
            omega
      · have holds : ∀ j u, (xs.take (n * info.size))[j]? = some u → w.cell? ((⟨g, 0, none⟩ : Addr).add j) = some u := fun j u hu => by
          have hu' : xs[j]? = some u := by
            rw [List.getElem?_take] at hu
            split at hu
            · exact hu
            · cases hu
          obtain ⟨b', e1, e2⟩ := (own_rd ⟨ha, hb, hc, .inr ⟨g, rest, rfl, hcell, hlen⟩⟩ : RdL (some ⟨g, 0, none⟩) xs h1') j u hu'
          cases e1
          exact cellH_mono hle e2
        have hpl : (xs.take (n * info.size)).length = n * info.size := by simp; omega
        have hr := run_append_grow (P := P) w t o.type e info z ht hinfo hz1 ⟨g, 0, none⟩ n cap (xs.take (n * info.size)) hpl holds b m' c (ys.take (m' * info.size)) hyl hnw (by omega) (by omega) (growslice_fits_wide (by omega) hfit)
        obtain ⟨x, w', hw', hxe, hs⟩ := grow cap _ (by omega) hpl rfl
        refine .inl ⟨x, w', trivial, hs, .inl ?_⟩
        rw [hexec, hr, hw', hxe]
        simp
/-- append of a slice to a row of ours -/
theorem eff_append {t e : TypeId} {x y : Operand} (i : Nat) {A B : Option Addr} {n cap m' c sz bytes : Nat} {xs ys : List Value} {z : Value} (ho : o.op = .call { callee := .builtin .append, args := #[x, y], argTypes := #[t, t] }) (ht : P.underlying t = some (.slice e))
    (hi : (P.info? e).map (fun i => (i.zero, i.size, i.bytes)) = some (some z, sz, bytes)) (hzs : z.cells.size = sz) (hsz : 0 < sz) (hby : 0 < bytes)
    (hx : ev m x = some (.slice A n cap)) (hy : ev m y = some (.slice B m' c)) (hL : L[i]? = some (own A n cap e sz xs)) (hB : Ent L (RdL B ys)) (hys : m' * sz ≤ ys.length) (h1 : ys.all (·.oneCell') = true)
    (hfit : (n + m' + (n + m') / 4 + 192) * bytes ≤ 281474976710656) :
    Eff P m L o (fun q : Option Addr × Nat => .slice q.1 (n + m') q.2) (fun q => L.set i (own q.1 (n + m') q.2 e sz (xs.take (n * sz) ++ ys.take (m' * sz)))) (fun _ => True) :=
  (eff_appendK (m := m) (L := L) i ho ht hi hzs hsz hby hx hy hL hB hys h1 hfit).weak fun _ _ h => h.tail
/-- the same where the lengths are as they should be -/
theorem eff_append1 {t e : TypeId} {x y : Operand} (i : Nat) {A B : Option Addr} {n cap m' c sz bytes : Nat} {xs ys : List Value} {z : Value} (ho : o.op = .call { callee := .builtin .append, args := #[x, y], argTypes := #[t, t] }) (ht : P.underlying t = some (.slice e))
    (hi : (P.info? e).map (fun i => (i.zero, i.size, i.bytes)) = some (some z, sz, bytes)) (hzs : z.cells.size = sz) (hsz : 0 < sz) (hby : 0 < bytes)
    (hx : ev m x = some (.slice A n cap)) (hy : ev m y = some (.slice B m' c)) (hL : L[i]? = some (own A n cap e sz xs)) (hB : Ent L (RdL B ys)) (hxl : xs.length = n * sz) (hys : ys.length = m' * sz) (h1 : ys.all (·.oneCell') = true)
    (hfit : (n + m' + (n + m') / 4 + 192) * bytes ≤ 281474976710656) :
    Eff P m L o (fun q : Option Addr × Nat => .slice q.1 (n + m') q.2) (fun q => L.set i (own q.1 (n + m') q.2 e sz (xs ++ ys))) (fun _ => True) := by
  have h := eff_append (m := m) (L := L) i ho ht hi hzs hsz hby hx hy hL hB (by omega) h1 hfit
  rw [← hxl, ← hys, List.take_length, List.take_length] at h
  exact h
theorem eff_appendK1 {t e : TypeId} {x y : Operand} (i : Nat) {A B : Option Addr} {n cap m' c sz bytes : Nat} {xs ys : List Value} {z : Value} (ho : o.op = .call { callee := .builtin .append, args := #[x, y], argTypes := #[t, t] }) (ht : P.underlying t = some (.slice e))
    (hi : (P.info? e).map (fun i => (i.zero, i.size, i.bytes)) = some (some z, sz, bytes)) (hzs : z.cells.size = sz) (hsz : 0 < sz) (hby : 0 < bytes)
    (hx : ev m x = some (.slice A n cap)) (hy : ev m y = some (.slice B m' c)) (hL : L[i]? = some (own A n cap e sz xs)) (hB : Ent L (RdL B ys)) (hxl : xs.length = n * sz) (hys : ys.length = m' * sz) (h1 : ys.all (·.oneCell') = true)
    (hfit : (n + m' + (n + m') / 4 + 192) * bytes ≤ 281474976710656) :
    Eff P m L o (fun q : Option Addr × Nat => .slice q.1 (n + m') q.2) (fun q => left A q.1 xs :: L.set i (own q.1 (n + m') q.2 e sz (xs ++ ys))) (fun _ => True) := by
  have h := eff_appendK (m := m) (L := L) i ho ht hi hzs hsz hby hx hy hL hB (by omega) h1 hfit
  rw [← hxl, ← hys, List.take_length, List.take_length] at h
  exact h
end effs
end Go.Proofs.Eng
