/- The engine, part 7: more operations: slicing, structs built, bytes to text, division and bits, append that keeps the old row. -/
import Derived.Test.YtdpckendkklfdaaGreatEngF
import Derived.Laws.BytesArg
import Derived.Laws.Tables
import Derived.Lib.SliceRun
set_option linter.unusedVariables false
set_option linter.unusedSimpArgs false
set_option linter.unusedSectionVars false
namespace Go.Proofs.Eng
open Go.RowKit

/-- a piece that is one of two -/
theorem Pk.or {E : World} {n : Nat} {m : List (Nat × Value)} {L : List Ch} {X : Act → World → Prop} {c d : Ch} (k1 : Pk E n m (c :: L) X) (k2 : Pk E n m (d :: L) X) : Pk E n m ((fun h => c h ∨ d h) :: L) X := fun a w f s => by
  obtain ⟨h1, h2, x, y, z, p, q⟩ := s.heap
  rcases p with p | p
  · exact k1 a w f ⟨s.os, s.tape, s.output, h1, h2, x, y, z, p, q⟩
  · exact k2 a w f ⟨s.os, s.tape, s.output, h1, h2, x, y, z, p, q⟩

/-! ### A list of pieces -/
theorem Sats.cat_pull {α : Type} {f : α → Ch} {l : List α} {L : List Ch} {h : Hp} (i : Nat) {x : α} (e : l[i]? = some x) (s : Sats (cat (l.map f) :: L) h) : Sats (f x :: cat ((l.eraseIdx i).map f) :: L) h := by
  have s1 := s.cat_open
  have e1 : (l.map f ++ L)[i]? = some (f x) := by
    have : i < l.length := (List.getElem?_eq_some_iff.1 e).1
    rw [List.getElem?_append_left (by simpa using this)]; simp [e]
  have s2 := Sats.pull i e1 s1
  refine Sats.under (fun h q => Sats.cat_shut ?_) s2
  have : i < l.length := (List.getElem?_eq_some_iff.1 e).1
  rw [List.eraseIdx_append_of_lt_length (by simpa using this)] at q
  have e2 : (l.map f).eraseIdx i = (l.eraseIdx i).map f := by
    apply List.ext_getElem?
    intro j
    simp only [List.getElem?_eraseIdx, List.getElem?_map]
    split <;> rfl
  rwa [e2] at q
theorem Sats.cat_push {α : Type} {f : α → Ch} {l : List α} {L : List Ch} {h : Hp} (i : Nat) {x y : α} (e : l[i]? = some x) (s : Sats (f y :: cat ((l.eraseIdx i).map f) :: L) h) : Sats (cat ((l.set i y).map f) :: L) h := by
  refine Sats.cat_shut ?_
  have hi : i < l.length := (List.getElem?_eq_some_iff.1 e).1
  have s2 : Sats (f y :: ((l.eraseIdx i).map f ++ L)) h := Sats.under (fun h q => q.cat_open) s
  have e2 : (l.eraseIdx i).map f ++ L = (l.map f ++ L).eraseIdx i := by
    rw [List.eraseIdx_append_of_lt_length (by simpa using hi)]
    congr 1
    apply List.ext_getElem?
    intro j
    simp only [List.getElem?_eraseIdx, List.getElem?_map]
    split <;> rfl
  rw [e2] at s2
  have s3 := Sats.push i (d := f x) (by rw [List.getElem?_append_left (by simpa using hi)]; simp [e]) s2
  have e3 : (l.map f ++ L).set i (f y) = (l.set i y).map f ++ L := by
    rw [List.set_append_left _ _ (by simpa using hi), List.map_set]
  rwa [e3] at s3
theorem Sats.move : ∀ {A : List Ch} {c : Ch} {L : List Ch} {h : Hp}, Sats (c :: (A ++ L)) h → Sats (A ++ c :: L) h
  | [], _, _, _, s => s
  | _ :: _, _, _, _, s => Sats.under (fun _ q => Sats.move q) (Sats.swap s)
theorem Sats.cat_snoc {α : Type} {f : α → Ch} {l : List α} {L : List Ch} {h : Hp} {y : α} (s : Sats (f y :: cat (l.map f) :: L) h) : Sats (cat ((l ++ [y]).map f) :: L) h := by
  refine Sats.cat_shut ?_
  have s2 : Sats (f y :: (l.map f ++ L)) h := Sats.under (fun h q => q.cat_open) s
  have s3 := Sats.move s2
  simpa using s3
theorem Sats.cat_shut' {A L : List Ch} {c : Ch} {h : Hp} (f : ∀ h, cat A h → c h) (s : Sats (A ++ L) h) : Sats (c :: L) h := Sats.head f (Sats.cat_shut s)
theorem Sats.cat_nil {α : Type} {f : α → Ch} {L : List Ch} {h : Hp} (s : Sats L h) : Sats (cat (([] : List α).map f) :: L) h := Sats.cat_shut (A := []) s
theorem Ent.cat {α : Type} {f : α → Ch} {l : List α} {L : List Ch} {F : Hp → Prop} (i : Nat) (e : L[i]? = some (cat (l.map f))) {j : Nat} {x : α} (ex : l[j]? = some x) (g : ∀ h, f x h → F h) (m : ∀ h h', Le h h' → F h → F h') : Ent L F := fun h s => by
  have s1 := Sats.cat_pull j ex (Sats.pull i e s)
  obtain ⟨h1, h2, a, _, _, p, _⟩ := s1
  exact m _ _ a (g _ p)

section ops
variable {P : Program} {m : List (Nat × Value)} {L : List Ch} {o : Oper}
theorem val_slice_h {t e : TypeId} {x y : Operand} {A : Option Addr} {n c : Nat} {z : Int} {kd : IntKind} (ho : o.op = .slice t x none (some y) none) (ht : P.underlying t = some (.slice e)) (hs : (P.info? e).isSome = true) (hx : ev m x = some (.slice A n c)) (hy : ev m y = some (.int kd z)) (j : Nat) (hj : z = (j : Int)) (hle : j ≤ c) :
    Val P m L o (.slice A j c) := fun a w f _ => by
  subst hj
  obtain ⟨info, e4⟩ := Option.isSome_iff_exists.1 hs
  have h1 : (0 : Int) ≤ (j : Int) ∧ (j : Int) ≤ (c : Int) := by omega
  have h2 : j ≤ c := hle
  cases A with
  | none => simp [execOp, ho, f _ _ hx, f _ _ hy, Instr.sliceAt, Instr.slice, Instr.sliceBounds, Instr.sliceBound, asIntOf, run_underlying ht, sizeOf, typeInfo, e4, h1, h2]
  | some b =>
    have : b.add 0 = b := by simp [Go.Addr.add]
    by_cases h0 : c = 0
    · obtain rfl : j = 0 := by omega
      subst h0
      simp [execOp, ho, f _ _ hx, f _ _ hy, Instr.sliceAt, Instr.slice, Instr.sliceBounds, Instr.sliceBound, asIntOf, run_underlying ht, sizeOf, typeInfo, e4]
    · simp [execOp, ho, f _ _ hx, f _ _ hy, Instr.sliceAt, Instr.slice, Instr.sliceBounds, Instr.sliceBound, asIntOf, run_underlying ht, sizeOf, typeInfo, e4, h1, h2, this, h0]
/-- where s[l:] begins -/
def subA (A : Option Addr) (c l s : Nat) : Option Addr := if c = l then A else A.map (·.add (l * s))
theorem val_slice_l {t e : TypeId} {x y : Operand} {A : Option Addr} {n c : Nat} {z : Int} {kd : IntKind} (ho : o.op = .slice t x (some y) none none) (ht : P.underlying t = some (.slice e)) (sz : Nat) (hs : (P.info? e).map (fun i => i.size) = some sz) (hx : ev m x = some (.slice A n c)) (hy : ev m y = some (.int kd z)) (l : Nat) (hl : z = (l : Int)) (hle : l ≤ n) :
    Val P m L o (.slice (subA A c l sz) (n - l) (c - l)) := fun a w f _ => by
  subst hl
  obtain ⟨info, e4, e5⟩ := Option.map_eq_some_iff.1 hs
  have h1 : (0 : Int) ≤ (l : Int) ∧ (l : Int) ≤ (n : Int) := by omega
  simp [execOp, ho, f _ _ hx, f _ _ hy, Instr.sliceAt, Instr.slice, Instr.sliceBounds, Instr.sliceBound, asIntOf, run_underlying ht, sizeOf, typeInfo, e4, e5, h1, hle, subA]
theorem val_slice_lh {t e : TypeId} {x y y' : Operand} {A : Option Addr} {n c : Nat} {z z' : Int} {kd kd' : IntKind} (ho : o.op = .slice t x (some y) (some y') none) (ht : P.underlying t = some (.slice e)) (sz : Nat) (hs : (P.info? e).map (fun i => i.size) = some sz) (hx : ev m x = some (.slice A n c)) (hy : ev m y = some (.int kd z)) (hy' : ev m y' = some (.int kd' z')) (l j : Nat) (hl : z = (l : Int)) (hj : z' = (j : Int)) (hle : l ≤ j) (hlc : j ≤ c) :
    Val P m L o (.slice (subA A c l sz) (j - l) (c - l)) := fun a w f _ => by
  subst hl; subst hj
  obtain ⟨info, e4, e5⟩ := Option.map_eq_some_iff.1 hs
  have h1 : (0 : Int) ≤ (l : Int) ∧ (l : Int) ≤ (j : Int) := by omega
  have h2 : (0 : Int) ≤ (j : Int) ∧ (j : Int) ≤ (c : Int) := by omega
  simp [execOp, ho, f _ _ hx, f _ _ hy, f _ _ hy', Instr.sliceAt, Instr.slice, Instr.sliceBounds, Instr.sliceBound, asIntOf, run_underlying ht, sizeOf, typeInfo, e4, e5, h1, h2, hle, hlc, subA]
theorem val_slice_s {t : TypeId} {x y : Operand} {s : ByteArray} {z : Int} {kd : IntKind} (ho : o.op = .slice t x none (some y) none) (ht : P.underlying t = some .string) (hx : ev m x = some (.string s)) (hy : ev m y = some (.int kd z)) (j : Nat) (hj : z = (j : Int)) (hle : j ≤ s.size) :
    Val P m L o (.string (s.extract 0 j)) := fun a w f _ => by
  subst hj
  have h1 : (0 : Int) ≤ (j : Int) ∧ (j : Int) ≤ (s.size : Int) := by omega
  simp [execOp, ho, f _ _ hx, f _ _ hy, Instr.sliceAt, Instr.slice, Instr.sliceBounds, Instr.sliceBound, asIntOf, run_underlying ht, h1, hle]
/-- a slice held against nil -/
theorem val_slice_nil {t e u : TypeId} {x y : Operand} {A : Option Addr} {n c n' c' : Nat} (ho : o.op = .binOp .eql t x y u) (ht : P.underlying t = some (.slice e)) (hx : ev m x = some (.slice A n c)) (hy : ev m y = some (.slice none n' c')) : Val P m L o (.bool A.isNone) := fun a w f _ => by
  have h1 := Lib.run_eql_slice_nil (P := P) w t e A n c n' c' ht
  have h2 : (eqGuard .eql t x y (.slice A n c) (.slice none n' c')).run P w = .ok () w := by simp [eqGuard]
  simp [execOp, ho, f _ _ hx, f _ _ hy, h1, h2]
/-- division, bits -/
theorem val_remw {t u : TypeId} {x y : Operand} {k : IntKind} {a b : Int} (ho : o.op = .binOp .rem t x y u) (hx : ev m x = some (.int k a)) (hy : ev m y = some (.int k b)) (hb : b ≠ 0) : Val P m L o (.int k (a.tmod b)) :=
  val_int ho hx hy fun w => by simp [binOp, Op.intDiv, hb]
theorem val_quow {t u : TypeId} {x y : Operand} {k : IntKind} {a b : Int} (ho : o.op = .binOp .quo t x y u) (hx : ev m x = some (.int k a)) (hy : ev m y = some (.int k b)) (hb : b ≠ 0) : Val P m L o (.int k (k.wrap (a.tdiv b))) :=
  val_int ho hx hy fun w => by simp [binOp, Op.intDiv, hb]
theorem val_shrw {t u : TypeId} {x y : Operand} {k k' : IntKind} {a b : Int} (ho : o.op = .binOp .shr t x y u) (hx : ev m x = some (.int k a)) (hy : ev m y = some (.int k' b)) (hb : 0 ≤ b) : Val P m L o (.int k (a.fdiv (2 ^ (min b.toNat k.bits)))) := fun ac w f _ => by
  have : ¬ b < 0 := by omega
  simp [execOp, ho, f _ _ hx, f _ _ hy, run_eqGuard_int, binOp, Op.shift, this]
theorem val_shlw {t u : TypeId} {x y : Operand} {k k' : IntKind} {a b : Int} (ho : o.op = .binOp .shl t x y u) (hx : ev m x = some (.int k a)) (hy : ev m y = some (.int k' b)) (hb : 0 ≤ b) : Val P m L o (.int k (k.wrap (a * 2 ^ (min b.toNat k.bits)))) := fun ac w f _ => by
  have : ¬ b < 0 := by omega
  simp [execOp, ho, f _ _ hx, f _ _ hy, run_eqGuard_int, binOp, Op.shift, this]
theorem val_andw {t u : TypeId} {x y : Operand} {k : IntKind} {a b : Int} (ho : o.op = .binOp .and t x y u) (hx : ev m x = some (.int k a)) (hy : ev m y = some (.int k b)) : Val P m L o (.int k (k.wrap (BitVec.ofInt k.bits a &&& BitVec.ofInt k.bits b).toNat)) :=
  val_int ho hx hy fun w => by simp [binOp, Op.intBits]
theorem val_orw {t u : TypeId} {x y : Operand} {k : IntKind} {a b : Int} (ho : o.op = .binOp .or t x y u) (hx : ev m x = some (.int k a)) (hy : ev m y = some (.int k b)) : Val P m L o (.int k (k.wrap (BitVec.ofInt k.bits a ||| BitVec.ofInt k.bits b).toNat)) :=
  val_int ho hx hy fun w => by simp [binOp, Op.intBits]
theorem val_xorw {t u : TypeId} {x y : Operand} {k : IntKind} {a b : Int} (ho : o.op = .binOp .xor t x y u) (hx : ev m x = some (.int k a)) (hy : ev m y = some (.int k b)) : Val P m L o (.int k (k.wrap (BitVec.ofInt k.bits a ^^^ BitVec.ofInt k.bits b).toNat)) :=
  val_int ho hx hy fun w => by simp [binOp, Op.intBits]
theorem val_max2 {x y : Operand} {ts : Array TypeId} {k : IntKind} {a b : Int} (ho : o.op = .call { callee := .builtin .max, args := #[x, y], argTypes := ts }) (hx : ev m x = some (.int k a)) (hy : ev m y = some (.int k b)) : Val P m L o (.int k (if b > a then b else a)) := fun ac w f _ => by
  simp [execOp, ho, f _ _ hx, f _ _ hy, resolve, invoke, builtin, Builtin.max_, Builtin.max2]
theorem val_min2 {x y : Operand} {ts : Array TypeId} {k : IntKind} {a b : Int} (ho : o.op = .call { callee := .builtin .min, args := #[x, y], argTypes := ts }) (hx : ev m x = some (.int k a)) (hy : ev m y = some (.int k b)) : Val P m L o (.int k (if b < a then b else a)) := fun ac w f _ => by
  simp [execOp, ho, f _ _ hx, f _ _ hy, resolve, invoke, builtin, Builtin.min_, Builtin.min2]
/-- text out of bytes -/
theorem val_bytes_string {t u e : TypeId} {x : Operand} {A : Option Addr} {n c : Nat} {xs : List Int} (ho : o.op = .convert t u x) (ht : P.underlying t = some (.slice e)) (he : P.underlying e = some (.int .u8)) (hu : P.underlying u = some .string) (hx : ev m x = some (.slice A n c)) (hr : Ent L (RdL A (xs.map (Value.int .u8)))) (hn : xs.length = n) : Val P m L o (.string (strOfNums xs)) := fun ac w f s => by
  have hx' := f _ _ hx
  cases A with
  | none =>
    have : xs = [] := by
      cases xs with
      | nil => rfl
      | cons y ys => obtain ⟨a, h, _⟩ := hr _ s 0 (.int .u8 y) (by simp); cases h
    subst this
    have := run_convert_bytes_nil (P := P) w t e ht he n c u hu
    simp [execOp, ho, hx', this, strOfNums, ByteArray.empty, ByteArray.emptyWithCapacity]
    rfl
  | some a =>
    have hl := run_loadCells_list (P := P) w a (xs.map (Value.int .u8)) fun j v e => by
      obtain ⟨a', h1, h2⟩ := hr _ s j v e
      cases h1; exact h2
    rw [List.length_map, hn] at hl
    simp only [execOp, ho, hx']
    simp [run_convert_bytes_string w t u e _ n c ht he hu, run_bytesToString w _ n c xs hl, foldl_push_bytes, strOfNums, ByteArray.empty, ByteArray.emptyWithCapacity]
    rfl
/-- a struct out of parts -/
theorem val_build {t : TypeId} {fs : Array Field} {parts : Array (Nat × Operand)} {us z cs : List Value} (offs : List (Nat × Nat)) (ho : o.op = .build t parts) (ht : P.underlying t = some (.struct fs)) (hz : (P.info? t).map (fun i => i.zero.map (fun v => v.cells.toList)) = some (some z))
    (hoff : fs.toList.mapM (fun f => (P.info? f.type).map fun i => (f.offset, i.size)) = some offs) (hp : evs m (parts.toList.map (·.2)) = some us)
    (hchk : ((parts.toList.map (·.1)).zip us).all (fun p => match offs[p.1]? with | some (off, sz) => Nat.beq p.2.cells.size sz && Nat.ble (off + sz) z.length | none => false) = true)
    (hcs : fillL (fun i => (offs.getD i (0, 0)).1) z ((parts.toList.map (·.1)).zip us) = cs) : Val P m L o (.agg cs.toArray) := fun a w f _ => by
  obtain ⟨info, e4, e5⟩ := Option.map_eq_some_iff.1 hz
  obtain ⟨zv, e6, e7⟩ := Option.map_eq_some_iff.1 e5
  have hps := evs_zip f _ _ hp
  have hmap : (fs.mapM fun f => Prod.mk f.offset <$> sizeOf f.type).run P w = .ok offs.toArray w := by
    rw [Array.mapM_eq_mapM_toList]
    simp [run_places (P := P) w fs.toList offs hoff]
  have hfill := fill_spec (place := (offs.toArray[·]?)) (pl := fun i => (offs.getD i (0, 0)).1) ((parts.toList.map (·.1)).zip us) zv.cells fun p hp => by
    have := List.all_eq_true.1 hchk p hp
    cases h : offs[p.1]? with
    | none => rw [h] at this; cases this
    | some q =>
      rw [h] at this
      simp only [Bool.and_eq_true] at this
      refine ⟨q.2, ?_, Nat.eq_of_beq_eq_true this.1, ?_⟩
      · simp [h, List.getD_eq_getElem?_getD]
      · have h2 := Nat.le_of_ble_eq_true this.2
        rw [← e7] at h2
        simpa [h, List.getD_eq_getElem?_getD] using h2
  simp only [execOp, ho, Instr.build]
  rw [e7, hcs] at hfill
  have hfill' : Instr.fill (fun x => offs.toArray[x]?) zv.cells (parts.map (fun p => (p.1, a.eval p.2))).toList = some cs.toArray := by
    rw [Array.toList_map, hps]; exact hfill
  simp [zeroValue, typeInfo, e4, e6, run_underlying ht]
  rw [hmap]
  simp at hfill'
  simp [hfill']
theorem val_conv_fit {t u : TypeId} {x : Operand} {k k' : IntKind} {a : Int} {dt : TypeDesc} (ho : o.op = .convert t u x) (ht : P.underlying t = some dt) (hu : P.underlying u = some (.int k')) (hx : ev m x = some (.int k a)) (h : k'.wrap a = a) : Val P m L o (.int k' a) := by
  have := val_conv_int (P := P) (L := L) ho ht hu hx
  rwa [h] at this
theorem val_rem {t u : TypeId} {x y : Operand} {k : IntKind} {a b : Int} (ho : o.op = .binOp .rem t x y u) (hx : ev m x = some (.int k a)) (hy : ev m y = some (.int k b)) (ha : 0 ≤ a) (hb : b ≠ 0) : Val P m L o (.int k (a % b)) := by
  have := val_remw (P := P) (L := L) ho hx hy hb
  rwa [IntWalk.rem_in a b ha] at this
theorem val_shr1 {t u : TypeId} {x y : Operand} {k k' : IntKind} {a : Int} (ho : o.op = .binOp .shr t x y u) (hx : ev m x = some (.int k a)) (hy : ev m y = some (.int k' 1)) : Val P m L o (.int k (a / 2)) := by
  have := val_shrw (P := P) (L := L) ho hx hy (by omega)
  have e : a.fdiv (2 ^ (min (1 : Int).toNat k.bits)) = a / 2 := by
    have : min (1 : Int).toNat k.bits = 1 := by cases k <;> rfl
    rw [this]
    exact Int.fdiv_eq_ediv_of_nonneg a (by omega)
  rwa [e] at this
end ops
end Go.Proofs.Eng
