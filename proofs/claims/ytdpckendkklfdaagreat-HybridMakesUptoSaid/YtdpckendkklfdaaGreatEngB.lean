/- The engine, part 2: what single operations do to a state. -/
import Derived.Test.YtdpckendkklfdaaGreatEng
import Derived.Deep.DeepAppendWide
set_option linter.unusedVariables false
set_option linter.unusedSimpArgs false
namespace Go.Proofs.Eng
open Go.RowKit

/-- The frame a tells what m tells. -/
def Evs (a : Act) (m : List (Nat × Value)) : Prop := ∀ x v, ev m x = some v → a.eval x = v
theorem Fr.Evs {n : Nat} {a : Act} {m : List (Nat × Value)} (f : Fr n a m) : Evs a m := fun _ _ h => f.ev h
/-- In every state that m and L describe the operation hands back v and leaves memory as it is. -/
def Val (P : Program) (m : List (Nat × Value)) (L : List Ch) (o : Oper) (v : Value) : Prop :=
  ∀ a w, Evs a m → Sats L (hp w) → (execOp a.eval o).run P w = .ok (.value v) w
/-- What an operation that writes, or a call, comes to: the value V x and the pieces M x, for some x of which p holds. -/
def Eff (P : Program) (m : List (Nat × Value)) (L : List Ch) (o : Oper) {α : Type} (V : α → Value) (M : α → List Ch) (p : α → Prop) : Prop :=
  ∀ E a w, Evs a m → Sat E w L →
    (∃ x w', p x ∧ Sat E w' (M x) ∧ ((execOp a.eval o).run P w = .ok (.value (V x)) w' ∨ ((execOp a.eval o).run P w = .ok .skip w' ∧ V x = undef))) ∨
    (∃ f args, (execOp a.eval o).run P w = .ok (.enter f args) w ∧ Calls P f args w fun e w' => ∃ x, p x ∧ e = .returned (V x) ∧ Sat E w' (M x))
section rules
variable {P : Program} {E : World} {n : Nat} {m : List (Nat × Value)} {L : List Ch} {Q : Exit → Act → World → Prop} {ops : Array Oper} {rest : List Oper} {o : Oper} {d : Nat}
theorem pk_val {v : Value} (hg : o.guard = none) (hd : o.dst = some d) (hn : Nat.blt d n = true) (hv : Val P m L o v) (k : Pk E n ((d, v) :: m) L (wpList P ops Q rest)) : Pk E n m L (wpList P ops Q (o :: rest)) := fun a w f s => by
  refine wpList_plain hg fun K hK => ?_
  unfold Oper.wp
  rw [hv a w f.Evs s.heap]
  refine hK _ _ ?_
  rw [hd]
  exact k _ _ (f.put d v (by simpa using hn)) s
theorem Eff.wp {α : Type} {V : α → Value} {M : α → List Ch} {p : α → Prop} (he : Eff P m L o V M p) {a : Act} {w : World} (f : Evs a m) (s : Sat E w L) {K : Act → World → Prop}
    (h : ∀ x w', p x → Sat E w' (M x) → K (a.put o.dst (V x)) w') : o.wp P a w K Q := by
  unfold Oper.wp
  rcases he E a w f s with ⟨x, w', hx, s', r | ⟨r, hu⟩⟩ | ⟨g, args, r, c⟩
  · rw [r]; exact h x w' hx s'
  · rw [r]; show K (a.put o.dst undef) w'; rw [← hu]; exact h x w' hx s'
  · rw [r]
    refine Calls.mono c ?_
    rintro e w' ⟨x, hx, rfl, s'⟩
    exact h x w' hx s'
theorem pk_eff {α : Type} {V : α → Value} {M : α → List Ch} {p : α → Prop} (he : Eff P m L o V M p) (hg : o.guard = none) (hd : o.dst = some d) (hn : Nat.blt d n = true)
    (k : ∀ x, p x → Pk E n ((d, V x) :: m) (M x) (wpList P ops Q rest)) : Pk E n m L (wpList P ops Q (o :: rest)) := fun a w f s => by
  refine wpList_plain hg fun K hK => ?_
  refine he.wp f.Evs s fun x w' hx s' => hK _ _ ?_
  rw [hd]
  exact k x hx _ _ (f.put d _ (by simpa using hn)) s'
theorem pk_eff0 {α : Type} {V : α → Value} {M : α → List Ch} {p : α → Prop} (he : Eff P m L o V M p) (hg : o.guard = none) (hd : o.dst = none)
    (k : ∀ x, p x → Pk E n m (M x) (wpList P ops Q rest)) : Pk E n m L (wpList P ops Q (o :: rest)) := fun a w f s => by
  refine wpList_plain hg fun K hK => ?_
  refine he.wp f.Evs s fun x w' hx s' => hK _ _ ?_
  rw [hd]
  exact k x hx _ _ f s'
/-- a guard that says yes: the operation is done -/
theorem pk_guard_yes {j t : Nat} {b : Bool} (hg : o.guard = some (j, b)) (ht : (ops[j]?).bind (·.dst) = some t) (hv : ev m (.tmp t) = some (.bool b))
    (k : Pk E n m L (fun a w => wpList P ops Q ({ o with guard := none } :: rest) a w)) : Pk E n m L (wpList P ops Q (o :: rest)) := fun a w f s => by
  have h := k a w f s
  have hy : Region.wanted o (yielded ops a.tmps) = true := by
    have := f.tmp hv
    simp [Region.wanted, hg, yielded, ht, this]
  have hy' : Region.wanted { o with guard := none } (yielded ops a.tmps) = true := rfl
  unfold wpList at h ⊢
  rw [if_pos hy'] at h
  rw [if_pos hy]
  exact h
theorem pk_guard_no {j t : Nat} {b c : Bool} (hg : o.guard = some (j, b)) (ht : (ops[j]?).bind (·.dst) = some t) (hv : ev m (.tmp t) = some (.bool c)) (hne : (c == b) = false) (hd : o.dst = some d) (hn : Nat.blt d n = true)
    (k : Pk E n ((d, undef) :: m) L (wpList P ops Q rest)) : Pk E n m L (wpList P ops Q (o :: rest)) := fun a w f s => by
  have hy : Region.wanted o (yielded ops a.tmps) = false := by
    have := f.tmp hv
    simp [Region.wanted, hg, yielded, ht, this, hne]
  unfold wpList
  rw [if_neg (by simp [hy]), hd]
  exact k _ _ (f.put d _ (by simpa using hn)) s
/-- a guard that was itself passed over -/
theorem pk_guard_un {j t : Nat} {b : Bool} (hg : o.guard = some (j, b)) (ht : (ops[j]?).bind (·.dst) = some t) (hv : ev m (.tmp t) = some undef) (hd : o.dst = some d) (hn : Nat.blt d n = true)
    (k : Pk E n ((d, undef) :: m) L (wpList P ops Q rest)) : Pk E n m L (wpList P ops Q (o :: rest)) := fun a w f s => by
  have hy : Region.wanted o (yielded ops a.tmps) = false := by
    have := f.tmp hv
    simp [Region.wanted, hg, yielded, ht, this, undef]
  unfold wpList
  rw [if_neg (by simp [hy]), hd]
  exact k _ _ (f.put d _ (by simpa using hn)) s
end rules

/-! ### Operations that only compute -/
section vals
variable {P : Program} {m : List (Nat × Value)} {L : List Ch} {o : Oper}
theorem val_move {x : Operand} {v : Value} (ho : o.op = .move x) (hx : ev m x = some v) : Val P m L o v := fun a w f _ => by
  simp [execOp, ho, f _ _ hx]
theorem val_assign {x : Operand} {v : Value} (ho : o.op = .assign x) (hx : ev m x = some v) : Val P m L o v := fun a w f _ => by
  simp [execOp, ho, f _ _ hx]
theorem val_pick {c x y : Operand} {b : Bool} {u v : Value} (ho : o.op = .pick c x y) (hc : ev m c = some (.bool b)) (hx : ev m x = some u) (hy : ev m y = some v) : Val P m L o (bif b then u else v) := fun a w f _ => by
  cases b <;> simp [execOp, ho, f _ _ hc, f _ _ hx, f _ _ hy, asBool]
theorem val_pick_t {c x y : Operand} {u : Value} (ho : o.op = .pick c x y) (hc : ev m c = some (.bool true)) (hx : ev m x = some u) : Val P m L o u := fun a w f _ => by
  simp [execOp, ho, f _ _ hc, f _ _ hx, asBool]
theorem val_pick_f {c x y : Operand} {v : Value} (ho : o.op = .pick c x y) (hc : ev m c = some (.bool false)) (hy : ev m y = some v) : Val P m L o v := fun a w f _ => by
  simp [execOp, ho, f _ _ hc, f _ _ hy, asBool]
theorem val_len_slice {x : Operand} {t e : TypeId} {A : Option Addr} {n c : Nat} (ho : o.op = .call { callee := .builtin .len, args := #[x], argTypes := #[t] }) (ht : P.underlying t = some (.slice e)) (hx : ev m x = some (.slice A n c)) :
    Val P m L o (.int .i64 n) := fun a w f _ => by
  simp [execOp, ho, f _ _ hx, resolve, invoke, builtin, Builtin.len_, run_underlying ht, goInt]
theorem val_cap_slice {x : Operand} {t e : TypeId} {A : Option Addr} {n c : Nat} (ho : o.op = .call { callee := .builtin .cap, args := #[x], argTypes := #[t] }) (ht : P.underlying t = some (.slice e)) (hx : ev m x = some (.slice A n c)) :
    Val P m L o (.int .i64 c) := fun a w f _ => by
  simp [execOp, ho, f _ _ hx, resolve, invoke, builtin, Builtin.cap_, run_underlying ht, goInt]
theorem val_len_string {x : Operand} {t : TypeId} {s : ByteArray} (ho : o.op = .call { callee := .builtin .len, args := #[x], argTypes := #[t] }) (ht : P.underlying t = some .string) (hx : ev m x = some (.string s)) :
    Val P m L o (.int .i64 s.size) := fun a w f _ => by
  simp [execOp, ho, f _ _ hx, resolve, invoke, builtin, Builtin.len_, run_underlying ht, goInt]
/-- whole numbers -/
theorem run_eqGuard_int (P : Program) (op : BinOp) (t : TypeId) (x y : Operand) (k k' : IntKind) (a b : Int) (w : World) : (eqGuard op t x y (.int k a) (.int k' b)).run P w = .ok () w := by
  cases op <;> simp [eqGuard]
theorem run_eqGuard_string (P : Program) (op : BinOp) (t : TypeId) (x y : Operand) (a b : ByteArray) (w : World) : (eqGuard op t x y (.string a) (.string b)).run P w = .ok () w := by
  cases op <;> simp [eqGuard]
theorem val_int {op : BinOp} {t u : TypeId} {x y : Operand} {k : IntKind} {a b : Int} {v : Value} (ho : o.op = .binOp op t x y u) (hx : ev m x = some (.int k a)) (hy : ev m y = some (.int k b)) (hr : ∀ w, (binOp op t (.int k a) (.int k b)).run P w = .ok v w) : Val P m L o v := fun ac w f _ => by
  simp [execOp, ho, f _ _ hx, f _ _ hy, run_eqGuard_int, hr]
theorem val_addw {t u : TypeId} {x y : Operand} {k : IntKind} {a b : Int} (ho : o.op = .binOp .add t x y u) (hx : ev m x = some (.int k a)) (hy : ev m y = some (.int k b)) : Val P m L o (.int k (k.wrap (a + b))) :=
  val_int ho hx hy fun w => by simp [binOp, Op.intArith]
theorem val_subw {t u : TypeId} {x y : Operand} {k : IntKind} {a b : Int} (ho : o.op = .binOp .sub t x y u) (hx : ev m x = some (.int k a)) (hy : ev m y = some (.int k b)) : Val P m L o (.int k (k.wrap (a - b))) :=
  val_int ho hx hy fun w => by simp [binOp, Op.intArith]
theorem val_mulw {t u : TypeId} {x y : Operand} {k : IntKind} {a b : Int} (ho : o.op = .binOp .mul t x y u) (hx : ev m x = some (.int k a)) (hy : ev m y = some (.int k b)) : Val P m L o (.int k (k.wrap (a * b))) :=
  val_int ho hx hy fun w => by simp [binOp, Op.intArith]
theorem wrap_i64 {z : Int} (h : -9223372036854775808 ≤ z ∧ z ≤ 9223372036854775807) : IntKind.i64.wrap z = z := by
  exact IntWalk.i64_in z h
theorem wrap_u64 {z : Int} (h : 0 ≤ z ∧ z ≤ 18446744073709551615) : IntKind.u64.wrap z = z := by
  exact IntWalk.u64_in z h
theorem val_add {t u : TypeId} {x y : Operand} {a b : Int} (ho : o.op = .binOp .add t x y u) (hx : ev m x = some (.int .i64 a)) (hy : ev m y = some (.int .i64 b)) (h : -9223372036854775808 ≤ a + b ∧ a + b ≤ 9223372036854775807) : Val P m L o (.int .i64 (a + b)) := by
  have := val_addw (P := P) (L := L) ho hx hy
  rwa [wrap_i64 h] at this
theorem val_sub {t u : TypeId} {x y : Operand} {a b : Int} (ho : o.op = .binOp .sub t x y u) (hx : ev m x = some (.int .i64 a)) (hy : ev m y = some (.int .i64 b)) (h : -9223372036854775808 ≤ a - b ∧ a - b ≤ 9223372036854775807) : Val P m L o (.int .i64 (a - b)) := by
  have := val_subw (P := P) (L := L) ho hx hy
  rwa [wrap_i64 h] at this
theorem val_mul {t u : TypeId} {x y : Operand} {a b : Int} (ho : o.op = .binOp .mul t x y u) (hx : ev m x = some (.int .i64 a)) (hy : ev m y = some (.int .i64 b)) (h : -9223372036854775808 ≤ a * b ∧ a * b ≤ 9223372036854775807) : Val P m L o (.int .i64 (a * b)) := by
  have := val_mulw (P := P) (L := L) ho hx hy
  rwa [wrap_i64 h] at this
theorem val_lss {t u : TypeId} {x y : Operand} {k : IntKind} {a b : Int} (ho : o.op = .binOp .lss t x y u) (hx : ev m x = some (.int k a)) (hy : ev m y = some (.int k b)) : Val P m L o (.bool (decide (a < b))) :=
  val_int ho hx hy fun w => by simp [binOp, Op.intCmp]
theorem val_leq {t u : TypeId} {x y : Operand} {k : IntKind} {a b : Int} (ho : o.op = .binOp .leq t x y u) (hx : ev m x = some (.int k a)) (hy : ev m y = some (.int k b)) : Val P m L o (.bool (decide (a ≤ b))) :=
  val_int ho hx hy fun w => by simp [binOp, Op.intCmp]
theorem val_gtr {t u : TypeId} {x y : Operand} {k : IntKind} {a b : Int} (ho : o.op = .binOp .gtr t x y u) (hx : ev m x = some (.int k a)) (hy : ev m y = some (.int k b)) : Val P m L o (.bool (decide (b < a))) :=
  val_int ho hx hy fun w => by simp [binOp, Op.intCmp]
theorem val_geq {t u : TypeId} {x y : Operand} {k : IntKind} {a b : Int} (ho : o.op = .binOp .geq t x y u) (hx : ev m x = some (.int k a)) (hy : ev m y = some (.int k b)) : Val P m L o (.bool (decide (b ≤ a))) :=
  val_int ho hx hy fun w => by simp [binOp, Op.intCmp]
theorem val_eql {t u : TypeId} {x y : Operand} {k : IntKind} {a b : Int} (ho : o.op = .binOp .eql t x y u) (hx : ev m x = some (.int k a)) (hy : ev m y = some (.int k b)) : Val P m L o (.bool (decide (a = b))) :=
  val_int ho hx hy fun w => by
    have : (a == b) = decide (a = b) := by by_cases h : a = b <;> simp [h]
    simp [binOp, Op.intCmp, this]
theorem val_neq {t u : TypeId} {x y : Operand} {k : IntKind} {a b : Int} (ho : o.op = .binOp .neq t x y u) (hx : ev m x = some (.int k a)) (hy : ev m y = some (.int k b)) : Val P m L o (.bool (decide (a ≠ b))) :=
  val_int ho hx hy fun w => by
    have : (a != b) = decide (a ≠ b) := by by_cases h : a = b <;> simp [h]
    simp [binOp, Op.intCmp, this]
/-- texts -/
theorem val_str {op : BinOp} {t u : TypeId} {x y : Operand} {a b : ByteArray} {v : Value} (ho : o.op = .binOp op t x y u) (hx : ev m x = some (.string a)) (hy : ev m y = some (.string b)) (hr : ∀ w, (binOp op t (.string a) (.string b)).run P w = .ok v w) : Val P m L o v := fun ac w f _ => by
  simp [execOp, ho, f _ _ hx, f _ _ hy, run_eqGuard_string, hr]
def slt (a b : ByteArray) : Bool := Op.bytesLess a.data.toList b.data.toList
theorem bytes_toList_inj {a b : ByteArray} (h : a.toList = b.toList) : a = b := by
  have : a.data.toList = b.data.toList := by rw [← ByteArray.toList_eq, ← ByteArray.toList_eq]; exact h
  cases a; cases b; simp at this; simp [this]
theorem str_beq (a b : ByteArray) : (a.toList == b.toList) = decide (a = b) := by
  by_cases h : a = b
  · simp [h]
  · have : a.toList ≠ b.toList := fun e => h (bytes_toList_inj e)
    simp [h, this]
theorem val_str_eql {t u : TypeId} {x y : Operand} {a b : ByteArray} (ho : o.op = .binOp .eql t x y u) (hx : ev m x = some (.string a)) (hy : ev m y = some (.string b)) : Val P m L o (.bool (decide (a = b))) :=
  val_str ho hx hy fun w => by simp only [binOp, Op.stringOp, str_beq]; rfl
theorem val_str_neq {t u : TypeId} {x y : Operand} {a b : ByteArray} (ho : o.op = .binOp .neq t x y u) (hx : ev m x = some (.string a)) (hy : ev m y = some (.string b)) : Val P m L o (.bool (decide (a ≠ b))) :=
  val_str ho hx hy fun w => by
    simp only [binOp, Op.stringOp, str_beq]
    show Result.ok (Value.bool (!decide (a = b))) w = _
    simp
theorem val_str_lss {t u : TypeId} {x y : Operand} {a b : ByteArray} (ho : o.op = .binOp .lss t x y u) (hx : ev m x = some (.string a)) (hy : ev m y = some (.string b)) : Val P m L o (.bool (slt a b)) :=
  val_str ho hx hy fun w => by simp only [binOp, Op.stringOp, slt, ByteArray.toList_eq]; rfl
theorem val_str_leq {t u : TypeId} {x y : Operand} {a b : ByteArray} (ho : o.op = .binOp .leq t x y u) (hx : ev m x = some (.string a)) (hy : ev m y = some (.string b)) : Val P m L o (.bool (slt a b || decide (a = b))) :=
  val_str ho hx hy fun w => by simp only [binOp, Op.stringOp, str_beq, slt]; rw [ByteArray.toList_eq, ByteArray.toList_eq]; rfl
theorem val_str_geq {t u : TypeId} {x y : Operand} {a b : ByteArray} (ho : o.op = .binOp .geq t x y u) (hx : ev m x = some (.string a)) (hy : ev m y = some (.string b)) : Val P m L o (.bool (!slt a b)) :=
  val_str ho hx hy fun w => by simp only [binOp, Op.stringOp, slt, ByteArray.toList_eq]; rfl
theorem val_str_add {t u : TypeId} {x y : Operand} {a b : ByteArray} (ho : o.op = .binOp .add t x y u) (hx : ev m x = some (.string a)) (hy : ev m y = some (.string b)) (h : a.size + b.size ≤ 9223372036854775807) : Val P m L o (.string (a ++ b)) :=
  val_str ho hx hy fun w => by
    simp only [binOp, Op.stringOp]
    rw [if_neg (by simp [IntKind.max, IntKind.signed, IntKind.bits]; omega)]
    rfl
theorem val_not {t : TypeId} {x : Operand} {b : Bool} (ho : o.op = .unOp .not t x) (hx : ev m x = some (.bool b)) : Val P m L o (.bool (!b)) := fun a w f _ => by
  simp [execOp, ho, f _ _ hx, Op.unary]
theorem val_extract {x : Operand} {i : Nat} {vs : Array Value} {v : Value} (ho : o.op = .extract x i) (hx : ev m x = some (.tuple vs)) (hi : vs[i]? = some v) : Val P m L o v := fun a w f _ => by
  simp [execOp, ho, f _ _ hx, Instr.extract, hi]
theorem val_func {fn : Fn} {first cap : Array Operand} {vs us : List Value} (ho : o.op = .makeFunc fn first cap) (h1 : evs m first.toList = some us) (h2 : evs m cap.toList = some vs) : Val P m L o (.func fn us.toArray vs.toArray) := fun a w f _ => by
  have key : ∀ {xs : List Operand} {vs : List Value}, evs m xs = some vs → xs.map a.eval = vs := by
    intro xs
    induction xs with
    | nil => intro vs h; simp [evs] at h; simp [h]
    | cons x xs ih =>
      intro vs h
      unfold evs at h
      split at h
      · rename_i v us e1 e2
        simp at h; subst h
        simp [f _ _ e1, ih e2]
      · cases h
  have e1 : first.map a.eval = us.toArray := by apply Array.ext'; simp [key h1]
  have e2 : cap.map a.eval = vs.toArray := by apply Array.ext'; simp [key h2]
  simp [execOp, ho, Instr.makeFunc, e1, e2]
theorem val_conv_int {t u : TypeId} {x : Operand} {k k' : IntKind} {a : Int} {dt : TypeDesc} (ho : o.op = .convert t u x) (ht : P.underlying t = some dt) (hu : P.underlying u = some (.int k')) (hx : ev m x = some (.int k a)) : Val P m L o (.int k' (k'.wrap a)) := fun ac w f _ => by
  simp [execOp, ho, f _ _ hx, convert, run_underlying ht, run_underlying hu, Conv.intToInt]
theorem val_nilCheck {x : Operand} {A : Option Addr} {k : Nat} (ho : o.op = .nilCheck x) (hx : ev m x = some (ptr A k)) (hA : Ent L fun _ => A.isSome = true) : Val P m L o (ptr A k) := fun ac w f s => by
  obtain ⟨a, rfl⟩ := Option.isSome_iff_exists.1 (hA _ s)
  have hx' := f _ _ hx
  rw [ptr_some] at hx' ⊢
  simp [execOp, ho, hx']
/-- addresses -/
theorem val_fieldAddr {t : TypeId} {x : Operand} {i : Nat} {A : Option Addr} {k : Nat} {fs : Array Field} (ho : o.op = .fieldAddr t x i) (ht : P.underlying t = some (.struct fs)) (off sz : Nat)
    (hf : (fs[i]?).map (fun f => (f.offset, (P.info? f.type).map (fun i => i.size))) = some (off, some sz)) (hz : 0 < sz) (hx : ev m x = some (ptr A k)) (hA : Ent L fun _ => A.isSome = true) : Val P m L o (ptr A (k + off)) := fun ac w f s => by
  obtain ⟨a, rfl⟩ := Option.isSome_iff_exists.1 (hA _ s)
  have hx' := f _ _ hx
  rw [ptr_some] at hx' ⊢
  obtain ⟨fld, e1, e2⟩ := Option.map_eq_some_iff.1 hf
  simp only [Prod.mk.injEq] at e2
  obtain ⟨e2, e3⟩ := e2
  obtain ⟨info, e4, e5⟩ := Option.map_eq_some_iff.1 e3
  have hne : info.size ≠ 0 := by omega
  simp [execOp, ho, hx', Instr.fieldAt, run_underlying ht, e1, Instr.sureAddr, fieldPlace, sizeOf, typeInfo, e4, hne, e2, Addr.add_add]
theorem val_indexAddr {t e : TypeId} {x i : Operand} {A : Option Addr} {n c : Nat} {z : Int} {kd : IntKind} (ho : o.op = .indexAddr t x i) (ht : P.underlying t = some (.slice e)) (sz : Nat) (hs : (P.info? e).map (fun i => i.size) = some sz) (hx : ev m x = some (.slice A n c)) (hi : ev m i = some (.int kd z))
    (j : Nat) (hj : z = (j : Int)) (hlt : j < n) (hA : Ent L fun _ => A.isSome = true) : Val P m L o (ptr A (j * sz)) := fun ac w f s => by
  obtain ⟨a, rfl⟩ := Option.isSome_iff_exists.1 (hA _ s)
  obtain ⟨info, e4, e5⟩ := Option.map_eq_some_iff.1 hs
  subst hj
  rw [ptr_some]
  have h1 : (0 : Int) ≤ (j : Int) ∧ (j : Int) < (n : Int) := by omega
  simp [execOp, ho, f _ _ hx, f _ _ hi, Instr.indexAt, asIntOf, run_underlying ht, sizeOf, typeInfo, e4, e5, h1.1, h1.2, hlt]
/-- loads -/
theorem run_isAgg_no {t : TypeId} {dt : TypeDesc} (ht : P.underlying t = some dt) (hs : (match dt with | .struct _ | .array _ _ => false | _ => true) = true) (w : World) : (isAgg t).run P w = .ok false w := by
  cases dt <;> simp [isAgg, run_underlying ht] at hs ⊢
theorem run_isAgg_yes {t : TypeId} {dt : TypeDesc} (ht : P.underlying t = some dt) (hs : (match dt with | .struct _ | .array _ _ => true | _ => false) = true) (w : World) : (isAgg t).run P w = .ok true w := by
  cases dt <;> simp [isAgg, run_underlying ht] at hs ⊢
theorem val_load {t : TypeId} {x : Operand} {A : Option Addr} {k : Nat} {v : Value} {dt : TypeDesc} (ho : o.op = .load t x) (ht : P.underlying t = some dt) (hs : (match dt with | .struct _ | .array _ _ => false | _ => true) = true)
    (hx : ev m x = some (ptr A k)) (hr : Ent L (Rd A k v)) : Val P m L o v := fun ac w f s => by
  obtain ⟨a, rfl, hc⟩ := hr _ s
  have hx' := f _ _ hx
  rw [ptr_some] at hx'
  have hc' : w.cell? (a.add k) = some v := hc
  simp [execOp, ho, hx', Instr.loadAt, Instr.sureAddr, loadVar, run_isAgg_no ht hs, hc']
theorem val_loads {t : TypeId} {x : Operand} {A : Option Addr} {k : Nat} {vs : List Value} {dt : TypeDesc} (ho : o.op = .load t x) (ht : P.underlying t = some dt) (hs : (match dt with | .struct _ | .array _ _ => true | _ => false) = true)
    (hz : (P.info? t).map (fun i => i.size) = some vs.length) (hx : ev m x = some (ptr A k)) (hA : Ent L fun _ => A.isSome = true) (hr : Ent L fun h => ∀ j v, vs[j]? = some v → Rd A (k + j) v h) : Val P m L o (.agg vs.toArray) := fun ac w f s => by
  obtain ⟨a, rfl⟩ := Option.isSome_iff_exists.1 (hA _ s)
  have hx' := f _ _ hx
  rw [ptr_some] at hx'
  obtain ⟨info, e4, e5⟩ := Option.map_eq_some_iff.1 hz
  have hl := run_loadCells_list (P := P) w (a.add k) vs fun j v e => by
    obtain ⟨a', ha, hc⟩ := hr _ s j v e
    cases ha
    rw [Addr.add_add]
    exact hc
  simp [execOp, ho, hx', Instr.loadAt, Instr.sureAddr, loadVar, run_isAgg_yes ht hs, sizeOf, typeInfo, e4, e5, hl]
end vals
/-- a cell out of a row -/
theorem Ent.rd {L : List Ch} {A : Option Addr} {xs : List Value} (e : Ent L (RdL A xs)) {k : Nat} {v : Value} (h : xs[k]? = some v) : Ent L (Rd A k v) := fun h' s => e h' s k v h
theorem Ent.rds {L : List Ch} {A : Option Addr} {xs vs : List Value} (e : Ent L (RdL A xs)) {k : Nat} (h : ∀ j v, vs[j]? = some v → xs[k + j]? = some v) : Ent L fun h => ∀ j v, vs[j]? = some v → Rd A (k + j) v h := fun h' s j v hv => e h' s _ _ (h j v hv)
theorem Ent.some_of {L : List Ch} {A : Option Addr} {xs : List Value} (e : Ent L (RdL A xs)) (h : 0 < xs.length) : Ent L fun _ => A.isSome = true := fun h' s => by
  obtain ⟨a, ha, _⟩ := e h' s 0 xs[0] (by simp [h])
  simp [ha]
theorem Ent.pure {L : List Ch} {p : Prop} (h : p) : Ent L fun _ => p := fun _ _ => h
end Go.Proofs.Eng
