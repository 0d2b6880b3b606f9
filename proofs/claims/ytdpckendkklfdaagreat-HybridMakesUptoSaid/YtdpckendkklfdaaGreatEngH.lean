/- The engine, part 8: make([]T), a literal of no element, keys and values that are a text and a number. -/
import Derived.Test.YtdpckendkklfdaaGreatEngG
import Derived.Laws.StructEq
import Derived.Laws.MakeOwn
set_option linter.unusedVariables false
set_option linter.unusedSimpArgs false
set_option linter.unusedSectionVars false
namespace Go.Proofs.Eng
open Go.RowKit
section
variable {P : Program} {m : List (Nat × Value)} {L : List Ch} {o : Oper}
/-- what only computes, taken as one that writes -/
theorem eff_val {v : Value} (hv : Val P m L o v) : Eff P m L o (fun _ : Unit => v) (fun _ => L) (fun _ => True) := fun E a w f s => .inl ⟨(), w, trivial, s, .inl (hv a w f s.heap)⟩
theorem madeCells_one (z : Value) (n : Nat) : madeCells #[z] n = (List.replicate n z).toArray := by
  apply Array.ext
  · simp [madeCells]
  · intro i h1 h2
    simp [madeCells, Nat.mod_one]
/-- make([]T, l, c) for elements of one cell -/
theorem eff_make1 {t e : TypeId} {x y : Operand} {bytes l c : Nat} {z zc : Value} {kl kc : IntKind} {zl zr : Int} (ho : o.op = .makeSlice t x y) (ht : P.underlying t = some (.slice e)) (hi : (P.info? e).map (fun i => (i.zero, i.size, i.bytes)) = some (some z, 1, bytes)) (hzc : z.cells = #[zc])
    (hx : ev m x = some (.int kl zl)) (hy : ev m y = some (.int kc zr)) (el : zl = (l : Int)) (er : zr = (c : Int)) (hlc : l ≤ c) (hb : bytes * c ≤ 281474976710656) (hc : c ≤ 281474976710656) :
    Eff P m L o (fun b : Nat => .slice (some ⟨b, 0, none⟩) l c) (fun b => own (some ⟨b, 0, none⟩) l c e 1 (List.replicate c zc) :: L) (fun _ => True) := fun E a w f s => by
  subst el er
  obtain ⟨i, hi', hz1⟩ := Option.map_eq_some_iff.1 hi
  simp only [Prod.mk.injEq] at hz1
  obtain ⟨h1, h2, h3⟩ := hz1
  have hb' : (i.bytes : Int) * (c : Int) ≤ 281474976710656 := by
    have h : ((i.bytes * c : Nat) : Int) ≤ 281474976710656 := by rw [h3]; omega
    rwa [Int.natCast_mul] at h
  have hr := run_make (P := P) w t e i z ht hi' h1 kl kc l c (by omega) (by omega) hb' (by omega)
  simp only [Int.toNat_natCast, h2, Nat.mul_one, hzc, madeCells_one] at hr
  refine .inl ⟨w.heap.size, w.alloc (.cells (List.replicate c zc).toArray e), trivial, s.alloc _ _ ?_, .inl ?_⟩
  · exact fun h e => ⟨by simp; omega, hlc, by simp only [maxLen]; omega, .inr ⟨_, [], rfl, by simpa using e, by simp⟩⟩
  · simp [execOp, ho, f _ _ hx, f _ _ hy, hr]
/-- a literal of no element -/
theorem eff_build0 {t e : TypeId} (ho : o.op = .buildSlice t 0 #[]) (ht : P.underlying t = some (.slice e)) (sz : Nat) (hi : (P.info? e).map (fun i => i.size) = some sz) :
    Eff P m L o (fun b : Nat => .slice (some ⟨b, 0, none⟩) 0 0) (fun b => own (some ⟨b, 0, none⟩) 0 0 e sz [] :: L) (fun _ => True) := fun E a w f s => by
  obtain ⟨i, hi', hs⟩ := Option.map_eq_some_iff.1 hi
  refine .inl ⟨w.heap.size, w.alloc (.cells #[] e), trivial, s.alloc _ _ ?_, .inl ?_⟩
  · exact fun h e => ⟨by simp, Nat.le_refl _, by simp, .inr ⟨_, [], rfl, by simpa using e, by simp⟩⟩
  · simp [execOp, ho, Instr.buildSlice, run_underlying ht, sizeOf, typeInfo, hi', hs, newRow, Instr.fill]
    congr 2
    apply Array.eq_empty_of_size_eq_zero
    simp
/-- the nil slice, as a row of ours -/
theorem Sats.nilrow {t : TypeId} {s : Nat} {L : List Ch} {h : Hp} (q : Sats L h) : Sats (own none 0 0 t s [] :: L) h :=
  ⟨fun _ => none, h, fun b o e => (by cases e), Le.refl h, fun _ => .inl rfl, ⟨by simp, Nat.le_refl _, Nat.zero_le _, .inl ⟨rfl, rfl, rfl⟩⟩, q⟩
theorem Pk.nilrow (t : TypeId) (s : Nat) {E : World} {n : Nat} {m : List (Nat × Value)} {L : List Ch} {X : Act → World → Prop} (k : Pk E n m (own none 0 0 t s [] :: L) X) : Pk E n m L X := Pk.heap (fun _ => Sats.nilrow) k
/-! ### a text and a number -/
abbrev encP (kd : IntKind) : ByteArray × Int → Value := fun p => .agg #[.string p.1, .int kd p.2]
/-- what is asked of the struct's type -/
structure PairOk (P : Program) (kt : TypeId) (kd : IntKind) : Prop where
  ex : ∃ f1 f2 : Field, P.underlying kt = some (.struct #[f1, f2]) ∧ f1.name ≠ "_" ∧ f2.name ≠ "_" ∧ f1.offset = 0 ∧ f2.offset = 1 ∧ P.underlying f1.type = some .string ∧ P.underlying f2.type = some (.int kd)
  held : P.stoodInHeld kt = false
theorem run_part_plain {t : TypeId} {dt : TypeDesc} (ht : P.underlying t = some dt) (hs : (match dt with | .struct _ | .array _ _ => false | _ => true) = true) {cs : Array Value} {i : Nat} {v : Value} (h : cs[i]? = some v) (w : World) : (part t cs i).run P w = .ok v w := by
  simp [part, run_isAgg_no ht hs, h]
theorem run_equal_pair {kt : TypeId} {kd : IntKind} (hk : PairOk P kt kd) (p q : ByteArray × Int) (d : Nat) (w : World) : (Op.equalIn (d + 2) kt (encP kd p) (encP kd q)).run P w = .ok (decide (p = q)) w := by
  obtain ⟨f1, f2, hu, n1, n2, o1, o2, u1, u2⟩ := hk.ex
  have hfs : P.fieldsOf kt = #[f1, f2] := by simp [Program.fieldsOf, hu]
  obtain ⟨a, b⟩ := p
  obtain ⟨c, e⟩ := q
  rw [show d + 2 = (d + 1) + 1 from rfl, run_equalIn_struct w (d + 1) kt _ _ (by rw [hfs]; exact hu) hk.held, hfs]
  have p1 : ∀ w, (part f1.type #[Value.string a, .int kd b] f1.offset).run P w = .ok (.string a) w := fun w => run_part_plain u1 rfl (by rw [o1]; rfl) w
  have p2 : ∀ w, (part f1.type #[Value.string c, .int kd e] f1.offset).run P w = .ok (.string c) w := fun w => run_part_plain u1 rfl (by rw [o1]; rfl) w
  have p3 : ∀ w, (part f2.type #[Value.string a, .int kd b] f2.offset).run P w = .ok (.int kd b) w := fun w => run_part_plain u2 rfl (by rw [o2]; rfl) w
  have p4 : ∀ w, (part f2.type #[Value.string c, .int kd e] f2.offset).run P w = .ok (.int kd e) w := fun w => run_part_plain u2 rfl (by rw [o2]; rfl) w
  have e1 : ∀ w, (Op.equalIn (d + 1) f1.type (.string a) (.string c)).run P w = .ok (decide (a = c)) w := fun w => by rw [run_equalIn_string w d f1.type a c u1, str_beq]
  have e2 : ∀ w, (Op.equalIn (d + 1) f2.type (.int kd b) (.int kd e)).run P w = .ok (decide (b = e)) w := fun w => by
    rw [run_equalIn_int w d f2.type kd kd b e u2]
    congr 1
  by_cases h1 : a = c
  · subst h1
    by_cases h2 : b = e
    · subst h2
      simp [Op.eqFields, n1, n2, p1, p2, p3, p4, e1, e2]
    · simp [Op.eqFields, n1, n2, p1, p2, p3, p4, e1, e2, h2]
  · simp [Op.eqFields, n1, n2, p1, p2, p3, p4, e1, e2, h1]
theorem findAsking_pair {kt : TypeId} {kd : IntKind} (hk : PairOk P kt kd) {V : Type} (encv : V → Value) (k : ByteArray × Int) : ∀ (l : List ((ByteArray × Int) × V)) (es : List MapEntry) (i : Nat) (w : World), es.map (fun e => (e.key, e.val)) = l.map (fun p => (encP kd p.1, encv p.2)) →
    (Instr.findAsking kt (encP kd k) es i).run P w = .ok (afind encv l k i) w
  | [], [], i, w, _ => by simp [Instr.findAsking, afind]
  | [], e :: es, i, w, h => by simp at h
  | p :: l, [], i, w, h => by simp at h
  | (k', v) :: l, e :: es, i, w, h => by
    simp only [List.map_cons, List.cons.injEq, Prod.mk.injEq] at h
    obtain ⟨⟨h1, h2⟩, h3⟩ := h
    unfold Instr.findAsking
    have he := run_equal_pair hk k k' 9998 w
    simp only [Op.equal, Op.maxDepth] 
    rw [Sem.run_bind, h1, he]
    by_cases hkk : k = k'
    · simp [hkk, afind, h2]
    · simp only [hkk, decide_false, afind, if_false, Result.andThen_ok, Bool.false_eq_true]
      exact findAsking_pair hk encv k l es (i + 1) w h3
theorem findNow_pair {kind : TypeDesc} {kd : IntKind} {V : Type} (encv : V → Value) (k : ByteArray × Int) : ∀ (l : List ((ByteArray × Int) × V)) (es : List MapEntry) (i : Nat), es.map (fun e => (e.key, e.val)) = l.map (fun p => (encP kd p.1, encv p.2)) →
    Instr.findNow kind (encP kd k) es i = if l = [] then some none else none
  | [], [], i, _ => rfl
  | [], e :: es, i, h => by simp at h
  | p :: l, [], i, h => by simp at h
  | (k', v) :: l, e :: es, i, h => by
    simp only [List.map_cons, List.cons.injEq, Prod.mk.injEq] at h
    unfold Instr.findNow
    rw [h.1.1]
    have : Instr.sameNow kind (encP kd k) (encP kd k') = none := by cases kind <;> rfl
    rw [this]
    simp
theorem keyOk_pair {kt : TypeId} {kd : IntKind} (hk : PairOk P kt kd) : KeyOk P kt (encP kd) where
  check e k w := by
    obtain ⟨f1, f2, hu, n1, n2, o1, o2, u1, u2⟩ := hk.ex
    obtain ⟨a, b⟩ := k
    have p1 : ∀ w, (part f1.type #[Value.string a, .int kd b] f1.offset).run P w = .ok (.string a) w := fun w => run_part_plain u1 rfl (by rw [o1]; rfl) w
    have p3 : ∀ w, (part f2.type #[Value.string a, .int kd b] f2.offset).run P w = .ok (.int kd b) w := fun w => run_part_plain u2 rfl (by rw [o2]; rfl) w
    have c1 : ∀ w, (Instr.checkKey e 9999 f1.type (.string a)).run P w = .ok () w := fun w => run_checkKey_plain u1 rfl e _ 9998 w
    have c2 : ∀ w, (Instr.checkKey e 9999 f2.type (.int kd b)).run P w = .ok () w := fun w => run_checkKey_plain u2 rfl e _ 9998 w
    rw [show (10000 : Nat) = 9999 + 1 from rfl]
    unfold Instr.checkKey
    simp [run_underlying hu, n1, n2, p1, p3, c1, c2]
  find encv k l es w h := by
    obtain ⟨f1, f2, hu, _⟩ := hk.ex
    simp only [Instr.findKey, Sem.run_bind, run_underlying hu, Result.andThen_ok]
    rw [findNow_pair encv k l es 0 h]
    by_cases hl : l = []
    · subst hl; simp [afind]
    · simp only [hl, if_false]
      exact findAsking_pair hk encv k l es 0 w h
  bits k := by
    obtain ⟨a, b⟩ := k
    show Instr.sameBits (9999 + 1) (.agg #[.string a, .int kd b]) (.agg #[.string a, .int kd b]) = true
    unfold Instr.sameBits
    simp [Instr.sameBits, (MapKept.bytes_beq a a).2 rfl]
theorem val_pair_neq {t u : TypeId} {x y : Operand} {kd : IntKind} {p q : ByteArray × Int} (hk : PairOk P t kd) (hg : P.eqGuardType P.depth t = false) (ho : o.op = .binOp .neq t x y u) (hx : ev m x = some (encP kd p)) (hy : ev m y = some (encP kd q)) : Val P m L o (.bool (decide (p ≠ q))) := fun a w f _ => by
  have h := run_equal_pair hk p q 9998 w
  simp [execOp, ho, f _ _ hx, f _ _ hy, run_eqGuard_agg (P := P) w .neq t x y _ _ hg, run_neq_struct, h]
theorem val_pair_eql {t u : TypeId} {x y : Operand} {kd : IntKind} {p q : ByteArray × Int} (hk : PairOk P t kd) (hg : P.eqGuardType P.depth t = false) (ho : o.op = .binOp .eql t x y u) (hx : ev m x = some (encP kd p)) (hy : ev m y = some (encP kd q)) : Val P m L o (.bool (decide (p = q))) := fun a w f _ => by
  have h := run_equal_pair hk p q 9998 w
  simp [execOp, ho, f _ _ hx, f _ _ hy, run_eqGuard_agg (P := P) w .eql t x y _ _ hg, run_eql_struct, h]
end
end Go.Proofs.Eng
