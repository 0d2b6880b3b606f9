/- The engine, part 9: ranges over functions. -/
import Derived.Test.YtdpckendkklfdaaGreatEngH
import Derived.RangeFuncLeaves
import Derived.RangeFuncRecord
import Derived.RangeFuncCalls
import Derived.TacticsIn
set_option linter.unusedVariables false
set_option linter.unusedSimpArgs false
set_option linter.unusedSectionVars false
namespace Go.Proofs.Eng
open Go.RowKit
/-- the wide fence, in a round or not -/
abbrev Fc (r : Option Nat) : Fence := { fn := fun _ => True, depth := none, alive := false, round := r }
def notDefer : Op → Bool
  | .defer _ => false
  | _ => true
theorem semAt_run {r : Option Nat} {o : Oper} (h : notDefer o.op = true) (ρ : Operand → Value) : o.semAt r ρ = execOp ρ o :=
  Oper.semAt_eq r ρ o fun c e => by rw [e] at h; cases h
section rules
variable {P : Program} {E : World} {n N : Nat} {r : Option Nat} {m : List (Nat × Value)} {L : List Ch} {Q : Exit → Act → World → Prop} {ops : Array Oper} {rest : List Oper} {o : Oper} {d : Nat}
theorem calls_fc {f : FuncId} {args : Array Value} {w : World} {R : Ending → World → Prop} (h : Calls P f args w R) : CallsIn (Fc r) N P f args w R := (callsIn_wide (n := N)).2 h
theorem Eff.wpIn {α : Type} {V : α → Value} {M : α → List Ch} {p : α → Prop} (he : Eff P m L o V M p) (hnd : notDefer o.op = true) {a : Act} {w : World} (f : Evs a m) (s : Sat E w L) {K : Act → World → Prop}
    (h : ∀ x w', p x → Sat E w' (M x) → K (a.put o.dst (V x)) w') : o.wpIn (Fc r) N P a w K Q := by
  refine ⟨fun _ _ => trivial, ?_⟩
  rw [semAt_run hnd]
  rcases he E a w f s with ⟨x, w', hx, s', e | ⟨e, hu⟩⟩ | ⟨g, args, e, c⟩
  · rw [e]; exact h x w' hx s'
  · rw [e]; show K (a.put o.dst undef) w'; rw [← hu]; exact h x w' hx s'
  · rw [e]
    refine ⟨fun h => (by cases h), calls_fc (Calls.mono c ?_)⟩
    rintro e w' ⟨x, hx, rfl, s'⟩
    exact h x w' hx s'
theorem pkI_val {v : Value} (hg : o.guard = none) (hd : o.dst = some d) (hn : Nat.blt d n = true) (hnd : notDefer o.op = true) (hv : Val P m L o v) (k : Pk E n ((d, v) :: m) L (wpListIn (Fc r) N P ops Q rest)) : Pk E n m L (wpListIn (Fc r) N P ops Q (o :: rest)) := fun a w f s => by
  refine wpListIn_plain hg fun K hK => ⟨fun _ _ => trivial, ?_⟩
  rw [semAt_run hnd, hv a w f.Evs s.heap]
  refine hK _ _ ?_
  rw [hd]
  exact k _ _ (f.put d v (by simpa using hn)) s
theorem pkI_eff {α : Type} {V : α → Value} {M : α → List Ch} {p : α → Prop} (he : Eff P m L o V M p) (hg : o.guard = none) (hnd : notDefer o.op = true) (hd : o.dst = some d) (hn : Nat.blt d n = true)
    (k : ∀ x, p x → Pk E n ((d, V x) :: m) (M x) (wpListIn (Fc r) N P ops Q rest)) : Pk E n m L (wpListIn (Fc r) N P ops Q (o :: rest)) := fun a w f s => by
  refine wpListIn_plain hg fun K hK => ?_
  refine he.wpIn hnd f.Evs s fun x w' hx s' => hK _ _ ?_
  rw [hd]
  exact k x hx _ _ (f.put d _ (by simpa using hn)) s'
theorem pkI_eff0 {α : Type} {V : α → Value} {M : α → List Ch} {p : α → Prop} (he : Eff P m L o V M p) (hg : o.guard = none) (hnd : notDefer o.op = true) (hd : o.dst = none)
    (k : ∀ x, p x → Pk E n m (M x) (wpListIn (Fc r) N P ops Q rest)) : Pk E n m L (wpListIn (Fc r) N P ops Q (o :: rest)) := fun a w f s => by
  refine wpListIn_plain hg fun K hK => ?_
  refine he.wpIn hnd f.Evs s fun x w' hx s' => hK _ _ ?_
  rw [hd]
  exact k x hx _ _ f s'
theorem pkI_nil (k : Pk E n m L (Q .normal)) : Pk E n m L (wpListIn (Fc r) N P ops Q []) := k
theorem pkI_region {id : Nat} (k : Pk E n m L (wpListIn (Fc r) N P ops Q ops.toList)) : Pk E n m L ((Code.region id ops false).wpIn (Fc r) N P Q) := fun a w f s => wpIn_region_list (k a w f s)
theorem pk_region_in {id : Nat} (k : Pk E n m L (wpListIn (Fc none) 0 P ops Q ops.toList)) : Pk E n m L ((Code.region id ops false).wp P Q) := fun a w f s => (wpIn_wide (n := 0)).1 (wpIn_region_list (k a w f s))
theorem pkI_seq {x y : Code} (k : Pk E n m L (x.wpIn (Fc r) N P (Exit.then (y.wpIn (Fc r) N P Q) Q))) : Pk E n m L ((Code.seq x y).wpIn (Fc r) N P Q) := fun a w f s => wpIn_seq (k a w f s)
theorem pkI_skip (k : Pk E n m L (Q .normal)) : Pk E n m L (Code.skip.wpIn (Fc r) N P Q) := fun a w f s => wpIn_skip (k a w f s)
theorem pkI_exit {i : Nat} (k : Pk E n m L (Q (.exit i))) : Pk E n m L ((Code.exit i).wpIn (Fc r) N P Q) := fun a w f s => wpIn_exit (k a w f s)
theorem pkI_block {i : Nat} {c : Code} (k : Pk E n m L (c.wpIn (Fc r) N P (Exit.inBlock i Q))) : Pk E n m L ((Code.block i c).wpIn (Fc r) N P Q) := fun a w f s => wpIn_block (k a w f s)
theorem pkI_if {c : Operand} {x y : Code} {p : Prop} [Decidable p] (hc : ev m c = some (.bool (decide p))) (kt : p → Pk E n m L (x.wpIn (Fc r) N P Q)) (kf : ¬ p → Pk E n m L (y.wpIn (Fc r) N P Q)) : Pk E n m L ((Code.cond c x y).wpIn (Fc r) N P Q) := fun a w f s => by
  by_cases h : p
  · exact wpIn_cond_true (by rw [f.ev hc]; simp [h]) (kt h a w f s)
  · exact wpIn_cond_false (by rw [f.ev hc]; simp [h]) (kf h a w f s)
end rules
/-! ### the record and the block -/
def dfc (D : Nat) : Ch := fun h => h D = some (.deferred (some []))
def lpc (l : Nat) (rc : Loop) : Ch := fun h => h l = some (.loop rc)
def putL : List Nat → List Value → List (Nat × Value) → List (Nat × Value)
  | t :: ts, v :: vs, m => putL ts vs ((t, v) :: m)
  | _, _, m => m
theorem Fr.putL {n : Nat} : ∀ (ts : List Nat) (vs : List Value) (tmps : Array Value) (m : List (Nat × Value)), (ts.all fun t => Nat.blt t n) = true → Fr n { tmps, defers := [] } m → Fr n { tmps := (ts.zip vs).foldl (fun tmps (t, a) => tmps.setIfInBounds t a) tmps, defers := [] } (Eng.putL ts vs m)
  | [], _, _, _, _, f => by simpa [Eng.putL] using f
  | t :: ts, [], _, _, _, f => by simpa [Eng.putL] using f
  | t :: ts, v :: vs, tmps, m, h, f => by
    simp only [List.all_cons, Bool.and_eq_true] at h
    exact Fr.putL ts vs _ _ h.2 (f.put t v (by simpa using h.1))
/-- A round: from the pieces L (and the record) to the pieces M x. -/
def Round (P : Program) (rc : Loop) (l : Nat) (E : World) (n : Nat) (m : List (Nat × Value)) (L : List Ch) {α : Type} (M : α → List Ch) (p : α → Prop) : Prop :=
  Pk E n m (lpc l rc :: L) (rc.assign.wpIn (Fc (some l)) 0 P (Exit.then (fun a1 w1 => ∃ L1 m1, Fr n a1 m1 ∧ Sat E w1 (lpc l rc :: L1) ∧
    Pk E n m1 (lpc l { rc with state := .busy } :: L1) (rc.body.wpIn (Fc (some l)) 0 P (fun e a w => e = .normal ∧ ∃ x, p x ∧ Sat E w (lpc l { rc with state := .busy } :: M x)))) (fun _ _ _ => False)))
section more
variable {P : Program} {E : World} {n N : Nat} {m : List (Nat × Value)} {L : List Ch} {Q : Exit → Act → World → Prop} {ops : Array Oper} {rest : List Oper} {o : Oper} {d : Nat}
theorem round_body {rc : Loop} {l : Nat} {X : Act → World → Prop} (k : Pk E n m (lpc l { rc with state := .busy } :: L) X) : Pk E n m (lpc l rc :: L) (fun a1 w1 => ∃ L1 m1, Fr n a1 m1 ∧ Sat E w1 (lpc l rc :: L1) ∧ Pk E n m1 (lpc l { rc with state := .busy } :: L1) X) :=
  fun a w f s => ⟨L, m, f, s, k⟩
theorem round_of {rc : Loop} {l : Nat} {α : Type} {M : α → List Ch} {p : α → Prop} {asg bd : Code} (h4 : rc.assign = asg) (h5 : rc.body = bd)
    (k : Pk E n m (lpc l rc :: L) (asg.wpIn (Fc (some l)) 0 P (Exit.then (fun a1 w1 => ∃ L1 m1, Fr n a1 m1 ∧ Sat E w1 (lpc l rc :: L1) ∧
      Pk E n m1 (lpc l { rc with state := .busy } :: L1) (bd.wpIn (Fc (some l)) 0 P (fun e a w => e = .normal ∧ ∃ x, p x ∧ Sat E w (lpc l { rc with state := .busy } :: M x)))) (fun _ _ _ => False)))) : Round P rc l E n m L M p := by
  subst h4 h5; exact k
theorem round_end {rc : Loop} {l : Nat} {α : Type} {M : α → List Ch} {p : α → Prop} (x : α) (hx : p x) (hL : ∀ h, Sats L h → Sats (lpc l { rc with state := .busy } :: M x) h) :
    Pk E n m L ((fun e (a : Act) w => e = Exit.normal ∧ ∃ x, p x ∧ Sat E w (lpc l { rc with state := .busy } :: M x)) .normal) := fun a w f s => ⟨rfl, x, hx, s.to hL⟩
theorem Sat.putObj {w : World} {i l : Nat} {c : Ch} {o o' : Obj} {d : Ch} (s : Sat E w L) (hi : L[i]? = some c) (hc : ∀ h, c h → h l = some o) (hd : ∀ h : Hp, h l = some o' → d h) : Sat E (w.putObj l o') (L.set i d) := by
  obtain ⟨h1, hle, hown, hup⟩ := Sats.upd hi s.heap
  have hl := hc _ hown
  have hw : w.heap[l]? = some o := hle _ _ hl
  refine ⟨s.os, s.tape, s.output, ?_⟩
  show Sats _ (hp { w with heap := w.heap.setIfInBounds l o' })
  rw [hp_setObj hw]
  exact hup _ l _ (by rw [hl]; simp) (hd _ (upd_same _ _ _))
theorem Sat.head_obj {w : World} {l : Nat} {c : Ch} {o : Obj} (s : Sat E w (c :: L)) (hc : ∀ h, c h → h l = some o) : w.heap[l]? = some o := by
  obtain ⟨h1, h2, x, y, z, p, q⟩ := s.heap
  exact x _ _ (hc _ p)
/-- yield is called -/
theorem pkI_yield {α : Type} {M : α → List Ch} {p : α → Prop} {y : Operand} {xs : Array Operand} {ts : Array TypeId} {vs : List Value} {l n' : Nat} {rc : Loop} {m0 : List (Nat × Value)} (i : Nat) (ho : o.op = .call { callee := .value y, args := xs, argTypes := ts }) (hy : ev m y = some (.func (.yield l) #[] #[])) (hxs : evs m xs.toList = some vs)
    (hi : L[i]? = some (lpc l rc)) (hst : rc.state = .ready) (hpe : rc.pending = none) (hfr : Fr n' { tmps := rc.tmps, defers := [] } m0) (hps : vs.length = rc.params.size) (hlt : (rc.params.toList.all fun t => Nat.blt t n') = true)
    (hr : Round P rc l E n' (putL rc.params.toList vs m0) (L.eraseIdx i) M p) (hg : o.guard = none) (hd : o.dst = some d) (hn : Nat.blt d n = true)
    (k : ∀ x, p x → Pk E n ((d, .bool true) :: m) (lpc l rc :: M x) (wpListIn (Fc none) 0 P ops Q rest)) : Pk E n m L (wpListIn (Fc none) 0 P ops Q (o :: rest)) := fun a w f s => by
  have s0 : Sat E w (lpc l rc :: L.eraseIdx i) := s.to fun _ h => Sats.pull i hi h
  have hl := s0.head_obj (c := lpc l rc) (l := l) (o := .loop rc) (fun _ h => h)
  have e := evs_array f.Evs hxs
  refine wpListIn_plain hg fun K hK => ⟨fun _ _ => trivial, ?_⟩
  rw [semAt_run (by rw [ho]; rfl)]
  have hrun : (execOp a.eval o).run P w = .ok (.round l rc.fn ((rc.params.zip vs.toArray).foldl (fun tmps (t, a) => tmps.setIfInBounds t a) rc.tmps) rc.assign rc.body) w := by
    have hy1 := run_yield (P := P) (args := vs.toArray) hl (show vs.toArray.size = rc.params.size by simpa using hps)
    simp only [execOp, ho, resolve, f.ev hy, e]
    simp only [Deferred.ofValue, invoke, Sem.run_bind, Sem.run_pure, Result.andThen_ok, Array.empty_append]
    exact hy1
  rw [hrun]
  refine ⟨fun h => (by cases h), ?_⟩
  have hfold : (rc.params.zip vs.toArray).foldl (fun tmps (t, a) => tmps.setIfInBounds t a) rc.tmps = (rc.params.toList.zip vs).foldl (fun tmps (t, a) => tmps.setIfInBounds t a) rc.tmps := by
    rw [← Array.foldl_toList, Array.toList_zip]
  have hf1 := Fr.putL rc.params.toList vs rc.tmps m0 hlt hfr
  rw [← hfold] at hf1
  refine roundIn_of_wpIn trivial (wpIn_mono (hr _ _ hf1 s0) ?_)
  intro e1 a1 w1 h1
  cases e1 <;> first | exact h1.elim | skip
  obtain ⟨L1, m1, hf1, s1, hk⟩ := h1
  have hl1 := s1.head_obj (c := lpc l rc) (l := l) (o := .loop rc) (fun _ h => h)
  refine ⟨_, run_beginRound hl1 hst, ?_⟩
  have s2 : Sat E (w1.putObj l (.loop { rc with state := .busy })) (lpc l { rc with state := .busy } :: L1) := Sat.putObj (i := 0) s1 rfl (fun _ h => h) (fun _ h => h)
  refine wpIn_mono (hk _ _ hf1 s2) ?_
  rintro e2 a2 w2 ⟨rfl, x, hx, s3⟩
  have hl3 := s3.head_obj (c := lpc l { rc with state := .busy }) (l := l) (o := .loop { rc with state := .busy }) (fun _ h => h)
  refine ⟨_, _, run_endRound none hl3, ?_⟩
  refine hK _ _ ?_
  rw [hd]
  refine k x hx _ _ (f.put d _ (by simpa using hn)) (Sat.putObj (i := 0) s3 rfl (fun _ h => h) (fun _ h => ?_))
  have : rc = { rc with state := .ready, pending := none } := by cases rc; simp_all
  rw [lpc, this]
  exact h
/-- the statement, all of whose rounds go to their end -/
theorem pk_rangeFunc {α : Type} {M : α → List Ch} {p : α → Prop} {g : Operand} {ps : Array Tmp} {assign body : Code} {gf : FuncId} {cap : Array Value} (hg : ev m g = some (.func (.func gf) #[] cap)) (hc : Callable P gf) (hdf : look m 65536 = none)
    (hcon : ∀ (E w : World) (l D : Nat) (rc : Loop), rc.state = .ready → rc.pending = none → rc.params = ps → rc.assign = assign → rc.body = body → Fr n { tmps := rc.tmps, defers := [] } m → Sat E w (lpc l rc :: dfc D :: L) →
      Calls P gf (#[.func (.yield l) #[] #[]] ++ cap) w (fun e w' => ∃ x, p x ∧ (∃ v, e = .returned v) ∧ Sat E w' (lpc l rc :: dfc D :: M x)))
    (k : ∀ x D, p x → Pk E n ((65536, .pointer (some ⟨D, 0, none⟩)) :: m) (dfc D :: M x) (Q .normal)) : Pk E n m L ((Code.rangeFunc g ps assign body).wp P Q) := fun a w f s => by
  have hdf0 : a.defers = [] := by rw [f.defers, hdf]; rfl
  refine (wpIn_wide (n := 0)).1 (wpIn_rangeFunc fun fn _ => ?_)
  obtain ⟨W1, hW1⟩ : ∃ W1, W1 = (w.alloc (.deferred (some []))).alloc (.loop { state := .ready, pending := none, fn, tmps := a.tmps, params := ps, assign, body, defers := w.heap.size }) := ⟨_, rfl⟩
  have s1 : Sat E (w.alloc (.deferred (some []))) (dfc w.heap.size :: L) := s.alloc _ _ fun _ h => h
  have s2 : Sat E W1 (lpc (w.heap.size + 1) { state := .ready, pending := none, fn, tmps := a.tmps, params := ps, assign, body, defers := w.heap.size } :: dfc w.heap.size :: L) := by
    rw [hW1]
    exact s1.alloc _ _ fun h hh => by rw [World.size_alloc] at hh; exact hh
  refine ⟨w.heap.size + 1, [{ target := .collected w.heap.size, args := #[] }], W1, { target := .fn (.func gf) cap, args := #[.func (.yield (w.heap.size + 1)) #[] #[]] }, W1, gf, #[.func (.yield (w.heap.size + 1)) #[] #[]] ++ cap, W1, ?_, ?_, fun _ _ => trivial, ?_, fun h => (by cases h), ?_⟩
  · rw [hW1]; exact run_enterLoop_outer fn a.tmps ps assign body
  · have h1 : resolve ({ a with defers := a.defers } : Act).eval (rangeCall g (w.heap.size + 1)) 0 = Deferred.ofValue (a.eval g) #[.func (.yield (w.heap.size + 1)) #[] #[]] := by
      simp [resolve, rangeCall, Act.eval]
    have h2 : resolve a.eval (rangeCall g (w.heap.size + 1)) 0 = Deferred.ofValue (a.eval g) #[.func (.yield (w.heap.size + 1)) #[] #[]] := h1
    rw [h2, f.ev hg]
    rfl
  · show (callFunc gf _).run P W1 = _
    exact run_callFunc hc _ _
  · refine calls_fc (Calls.mono (hcon E W1 _ _ _ rfl rfl rfl rfl rfl ⟨by rw [hdf]; rfl, f.size, f.small, f.get⟩ s2) ?_)
    rintro e w' ⟨x, hx, ⟨v, rfl⟩, s3⟩
    have hl3 := s3.head_obj (c := lpc _ _) (o := .loop _) (fun _ h => h)
    refine ⟨none, _, run_endLoop hl3 (by simp), ?_⟩
    have s4 : Sat E (w'.putObj (w.heap.size + 1) (.loop { state := .exhausted, pending := none, fn, tmps := a.tmps, params := ps, assign, body, defers := w.heap.size })) (lpc (w.heap.size + 1) { state := .exhausted, pending := none, fn, tmps := a.tmps, params := ps, assign, body, defers := w.heap.size } :: dfc w.heap.size :: M x) := Sat.putObj (i := 0) s3 rfl (fun _ h => h) (fun _ h => h)
    refine k x w.heap.size hx _ _ ⟨?_, f.size, f.small, fun i v hi h => ?_⟩ (s4.to fun _ h => h.tail)
    · show [_] ++ a.defers = _
      rw [hdf0]; rfl
    · refine f.get i v hi ?_
      have : Nat.beq i 65536 = false := by
        cases e : Nat.beq i 65536 with
        | false => rfl
        | true => exact absurd (Nat.eq_of_beq_eq_true e) hi
      simpa [look, this] using h
/-- a function with such a statement: its beginning and its ends -/
theorem enterM {R : Ending → World → Prop} {fn : Func} {f : FuncId} {c : Code} {vs : List Value} {w : World} (hf : P.funcs[f]? = some fn) (hb : fn.body = some c) (hn : fn.ntmps = n) (ha : (Nat.ble vs.length n && Nat.ble n 65536) = true) (s : Sat E w L)
    (k : Pk E n (argsm vs 0) L (c.wp P (bodyPostM Fence.wide 0 P fn R))) : Calls P f vs.toArray w R := by
  rw [Bool.and_eq_true] at ha
  have hsp : look (argsm vs 0) 65536 = none := by
    cases e : look (argsm vs 0) 65536 with
    | none => rfl
    | some v =>
      obtain ⟨_, h2⟩ := look_argsm vs 0 _ v e
      have h3 := (List.getElem?_eq_some_iff.1 h2).1
      have h4 := Nat.le_of_ble_eq_true ha.1
      have h5 := Nat.le_of_ble_eq_true ha.2
      omega
  refine (callsIn_wide (n := 0)).1 (callsIn_of_wp_marks hf hb trivial ((wpIn_wide (n := 0)).2 (k _ _ ⟨by rw [hsp]; rfl, by have := Nat.le_of_ble_eq_true ha.1; simp [hn]; omega, Nat.le_of_ble_eq_true ha.2, fun i v _ h => ?_⟩ s)))
  obtain ⟨_, h2⟩ := look_argsm vs 0 i v h
  simp only [Nat.sub_zero] at h2
  have : i < vs.length := (List.getElem?_eq_some_iff.1 h2).1
  simp [Array.getElem?_append, this, (List.getElem?_eq_some_iff.1 h2).2]
theorem retM {R : Ending → World → Prop} {fn : Func} {D : Nat} {v : Value} (i : Nat) (hi : L[i]? = some (dfc D)) (hsp : look m 65536 = some (.pointer (some ⟨D, 0, none⟩)))
    (hres : ∀ a w, Fr n a m → (results fn a.tmps).run P w = .ok v w) (k : ∀ w, Sat E w (L.eraseIdx i) → R (.returned v) w) : Pk E n m L (bodyPostM Fence.wide 0 P fn R .ret) := fun a w f s => by
  have hd : a.defers = [{ target := .collected D, args := #[] }] := by rw [f.defers, hsp]; rfl
  have s0 : Sat E w (dfc D :: L.eraseIdx i) := s.to fun _ h => Sats.pull i hi h
  have hD := s0.head_obj (c := dfc D) (l := D) (o := .deferred (some [])) (fun _ h => h)
  show LeavesInM Fence.wide 0 P fn a.tmps R a.defers .returning w
  rw [hd]
  refine ⟨by simp, .inl ⟨D, _, rfl, run_takeDeferred hD, ?_⟩⟩
  have s1 : Sat E (w.putObj D (.deferred none)) ((fun h : Hp => h D = some (.deferred none)) :: L.eraseIdx i) := Sat.putObj (i := 0) s0 rfl (fun _ h => h) (fun _ h => h)
  exact ⟨_, hres a _ f, k _ (s1.to fun _ h => h.tail)⟩
theorem retM0 {R : Ending → World → Prop} {fn : Func} {v : Value} (hres : ∀ a w, Fr n a m → (results fn a.tmps).run P w = .ok v w) (k : ∀ w, Sat E w L → R (.returned v) w) (hdf : dfl (look m 65536) = [] := by rfl) : Pk E n m L (bodyPostM Fence.wide 0 P fn R .ret) := fun a w f s => by
  show LeavesInM Fence.wide 0 P fn a.tmps R a.defers .returning w
  rw [f.defers.trans hdf]
  exact ⟨_, hres a _ f, k _ s⟩
theorem res1 {fn : Func} {t : Tmp} {v : Value} (hr : fn.results = #[.tmp t]) (h : ev m (.tmp t) = some v) : ∀ a w, Fr n a m → (results fn a.tmps).run P w = .ok v w := fun a w f => by
  rw [results_tmp hr]
  have := f.tmp h
  simp [Array.getD_eq_getD_getElem?, this]
theorem res2 {fn : Func} {t u : Tmp} {v v' : Value} (hr : fn.results = #[.tmp t, .tmp u]) (h : ev m (.tmp t) = some v) (h' : ev m (.tmp u) = some v') : ∀ a w, Fr n a m → (results fn a.tmps).run P w = .ok (.tuple #[v, v']) w := fun a w f => by
  rw [results_tmp2 hr]
  have h1 := f.tmp h
  have h2 := f.tmp h'
  simp [Array.getD_eq_getD_getElem?, h1, h2]
end more
end Go.Proofs.Eng
