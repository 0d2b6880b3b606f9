/- The engine, part 15: what came in, as what can be read. -/
import Derived.Test.YtdpckendkklfdaaGreatEngN
import Derived.Deep.Slices
import Derived.ChangeSame
import Derived.OpenShut
set_option linter.unusedVariables false
set_option linter.unusedSimpArgs false
set_option linter.unusedSectionVars false
namespace Go.Proofs.Eng
open Go.RowKit Go.ChangeShapes Go.WideShapes Go.Deep
section
variable {H : Type} {enc : TypeId × Value → H} {P : Program} {W : World} {base : Nat} {spare : Nat → Bool} {held : Bool}
/-- how values of a type read: their cells, what is known of them, their weight -/
def ElIn (enc : TypeId × Value → H) (P : Program) (W : World) (base : Nat) (spare : Nat → Bool) (held : Bool) (e : TypeId) {α : Type} (cells : α → List Value) (ok : α → Prop) (wt : α → Nat) (b : DataW H → Nat) : Prop :=
  ∀ n cs x, DataW.trod enc P W base spare held n e cs = some x → ∃ a, cs = cells a ∧ ok a ∧ wt a ≤ b x.1
theorem flat_inv {α : Type} {f : α → List Value} {s : Nat} (hs : ∀ x, (f x).length = s) : ∀ {l : List α} {k : Nat} {v : Value}, (l.flatMap f)[k]? = some v → ∃ (i j : Nat) (a : α), l[i]? = some a ∧ j < s ∧ k = i * s + j ∧ (f a)[j]? = some v
  | [], k, v, h => by simp at h
  | a :: r, k, v, h => by
    rw [List.flatMap_cons] at h
    by_cases hk : k < s
    · rw [List.getElem?_append_left (by rw [hs]; exact hk)] at h
      exact ⟨0, k, a, rfl, hk, by simp, h⟩
    · rw [List.getElem?_append_right (by rw [hs]; omega), hs] at h
      obtain ⟨i, j, a', h1, h2, h3, h4⟩ := flat_inv hs h
      exact ⟨i + 1, j, a', by simpa using h1, h2, by rw [Nat.add_mul]; omega, h4⟩
theorem list_in {α : Type} (R : Nat → α → Prop) : ∀ (n : Nat), (∀ i, i < n → ∃ a, R i a) → ∃ l : List α, l.length = n ∧ ∀ i a, l[i]? = some a → R i a
  | 0, _ => ⟨[], rfl, fun i a h => by simp at h⟩
  | n + 1, h => by
    obtain ⟨l, hl, hr⟩ := list_in R n fun i hi => h i (by omega)
    obtain ⟨a, ha⟩ := h n (by omega)
    refine ⟨l ++ [a], by simp [hl], fun i b hb => ?_⟩
    by_cases hi : i < l.length
    · rw [List.getElem?_append_left hi] at hb; exact hr i b hb
    · rw [List.getElem?_append_right (by omega)] at hb
      have : i = n := by
        have := (List.getElem?_eq_some_iff.1 hb).1
        simp at this; omega
      subst this
      rw [hl] at hb; simp at hb; rw [← hb]; exact ha
theorem sum_le {α β : Type} {f : α → Nat} {g : β → Nat} : ∀ (l : List α) (m : List β), l.length = m.length → (∀ (i : Nat) (a : α) (b : β), l[i]? = some a → m[i]? = some b → f a ≤ g b) → (l.map f).sum ≤ (m.map g).sum
  | [], [], _, _ => Nat.le_refl _
  | a :: r, b :: q, hl, h => by
    have h0 := h 0 a b rfl rfl
    have := sum_le r q (by simpa using hl) fun i x y hx hy => h (i + 1) x y (by simpa using hx) (by simpa using hy)
    simp only [List.map_cons, List.sum_cons]; omega
  | [], _ :: _, hl, _ => by simp at hl
  | _ :: _, [], hl, _ => by simp at hl
/-- a slice that came in: where it lies, its spare room, its elements -/
abbrev SlIn (α : Type) := Option Addr × Nat × List α
def SlIn.v {α : Type} (q : SlIn α) : Value := .slice q.1 q.2.2.length q.2.1
structure SlOk {α : Type} (W : World) (cells : α → List Value) (ok : α → Prop) (q : SlIn α) : Prop where
  cap : q.2.2.length ≤ q.2.1
  max : q.2.1 ≤ maxLen
  each : ∀ a ∈ q.2.2, ok a
  nil : q.1 = none → q.2.2 = [] ∧ q.2.1 = 0
  rd : RdL q.1 (q.2.2.flatMap cells) (hp W)
theorem elIn_slice {α : Type} {t e : TypeId} {k : Nat} {cells : α → List Value} {ok : α → Prop} {wt : α → Nat} {b : DataW H → Nat} (ht : P.underlying t = some (.slice e)) (hk : P.cellsOf e = k) (hs : ∀ a, (cells a).length = k)
    (hb : ∀ es sp : List (DataW H), (es.map b).sum + 1 ≤ b (.slice es sp)) (hn : 1 ≤ b .nil) (h : ElIn enc P W base spare held e cells ok wt b) :
    ElIn enc P W base spare held t (fun q : SlIn α => [q.v]) (SlOk W cells ok) (fun q => (q.2.2.map wt).sum + 1) b := fun n cs x hx => by
  rcases open_slice ht hx with ⟨rfl, rfl⟩ | ⟨a, len, cap, m, n', D, Pl, rfl, h1, h2, h3, h4, rfl, h5⟩
  · exact ⟨(none, 0, []), rfl, ⟨Nat.le_refl _, Nat.zero_le _, (fun _ h => by cases h), (fun _ => ⟨rfl, rfl⟩), (fun k v e => by simp at e)⟩, by simpa using hn⟩
  · have hlm : len ≤ m := by rw [h4]; split <;> omega
    obtain ⟨l, hl, hr⟩ := list_in (fun i x => ∃ cs', W.cells? base (a.add (i * P.cellsOf e)) (P.cellsOf e) = some cs' ∧ cs' = cells x ∧ ok x ∧ wt x ≤ b (D i)) len fun i hi => by
      obtain ⟨cs', c1, c2⟩ := h5 i (by omega)
      obtain ⟨x, e1, e2, e3⟩ := h _ _ _ c2
      exact ⟨x, cs', c1, e1, e2, e3⟩
    refine ⟨(some a, cap, l), by simp [SlIn.v, hl], ⟨by simpa [hl] using h2, h3, fun x hx => ?_, fun h => (by cases h), fun j v hv => ?_⟩, ?_⟩
    · obtain ⟨i, hi⟩ := List.getElem?_of_mem hx
      obtain ⟨_, _, _, r, _⟩ := hr i x hi
      exact r
    · obtain ⟨i, j', x, e1, e2, e3, e4⟩ := flat_inv hs hv
      obtain ⟨cs', c1, c2, _⟩ := hr i x e1
      obtain ⟨_, hlen, hcell⟩ := World.cells?_some c1
      rw [hk] at hlen hcell c1
      have := hcell j' e2
      rw [c2, e4, Addr.add_add, ← e3] at this
      exact ⟨a, rfl, this⟩
    · have := hb ((List.range len).map D) ((List.range (m - len)).map fun j => D (len + j))
      have h6 := sum_le (f := wt) (g := b) l ((List.range len).map D) (by simp [hl]) fun i x y hx hy => by
        have hi : i < len := by have := (List.getElem?_eq_some_iff.1 hx).1; omega
        rw [List.getElem?_map, List.getElem?_range hi] at hy
        simp only [Option.map_some, Option.some.injEq] at hy
        obtain ⟨_, _, _, _, r⟩ := hr i x hx
        rw [← hy]; exact r
      dsimp only
      omega
theorem elIn_string {e : TypeId} {b : DataW H → Nat} (ht : P.underlying e = some .string) (hb : ∀ bs : List UInt8, bs.length + 1 ≤ b (.lit (.string bs))) : ElIn enc P W base spare held e (fun s : ByteArray => [.string s]) (fun s => s.size ≤ maxLen) (fun s => s.size + 1) b := fun n cs x h => by
  obtain ⟨s, rfl, rfl, hs⟩ := DataW.trod_string ht h
  exact ⟨s, rfl, hs, by have := hb s.data.toList; simpa using this⟩
theorem elIn_int {e : TypeId} {kd : IntKind} {b : DataW H → Nat} (ht : P.underlying e = some (.int kd)) (hb : ∀ z : Int, 1 ≤ b (.lit (.int kd z))) : ElIn enc P W base spare held e (fun z : Int => [.int kd z]) (fun z => (Lit.int kd z).wf = true) (fun _ => 1) b := fun n cs x h => by
  obtain ⟨z, rfl, rfl, hz⟩ := DataW.trod_int ht h
  exact ⟨z, rfl, hz, hb z⟩
theorem elIn_struct2 {t : TypeId} {f0 f1 : Field} {A0 A1 : Type} {c0 : A0 → Value} {c1 : A1 → Value} {k0 : A0 → Prop} {k1 : A1 → Prop} {w0 : A0 → Nat} {w1 : A1 → Nat} {b : DataW H → Nat} (ht : P.underlying t = some (.struct #[f0, f1])) (hz : P.cellsOf t = 2) (ho : f0.offset = 0 ∧ f1.offset = 1) (hc : P.cellsOf f0.type = 1 ∧ P.cellsOf f1.type = 1) (hb : ∀ ps : List (DataW H), (ps.map b).sum ≤ b (.agg ps))
    (h0 : ElIn enc P W base spare held f0.type (fun a => [c0 a]) k0 w0 b) (h1 : ElIn enc P W base spare held f1.type (fun a => [c1 a]) k1 w1 b) :
    ElIn enc P W base spare held t (fun q : A0 × A1 => [c0 q.1, c1 q.2]) (fun q => k0 q.1 ∧ k1 q.2) (fun q => w0 q.1 + w1 q.2) b := fun n cs x h => by
  obtain ⟨xs, m, _, rfl, hl, hxl, hf⟩ := DataW.trod_struct ht h
  rw [hz] at hl
  match xs, hxl, cs, hl with
  | [y0, y1], _, [v0, v1], _ =>
    obtain ⟨o0, o1⟩ := ho
    obtain ⟨z0, z1⟩ := hc
    have g0 := hf 0 f0 rfl
    simp [o0, z0] at g0
    have g1 := hf 1 f1 rfl
    simp [o1, z1] at g1
    obtain ⟨a0, e0, p0, u0⟩ := h0 _ _ _ g0
    simp only [List.cons.injEq, and_true] at e0
    obtain ⟨a1, e1, p1, u1⟩ := h1 _ _ _ g1
    simp only [List.cons.injEq, and_true] at e1
    refine ⟨(a0, a1), by rw [e0, e1], ⟨p0, p1⟩, ?_⟩
    have := hb ([y0, y1].map (·.1))
    simp only [List.map_cons, List.map_nil, List.sum_cons, List.sum_nil] at this ⊢
    omega
theorem elIn_struct3 {t : TypeId} {f0 f1 f2 : Field} {A0 A1 A2 : Type} {c0 : A0 → Value} {c1 : A1 → Value} {c2 : A2 → Value} {k0 : A0 → Prop} {k1 : A1 → Prop} {k2 : A2 → Prop} {w0 : A0 → Nat} {w1 : A1 → Nat} {w2 : A2 → Nat} {b : DataW H → Nat} (ht : P.underlying t = some (.struct #[f0, f1, f2])) (hz : P.cellsOf t = 3) (ho : f0.offset = 0 ∧ f1.offset = 1 ∧ f2.offset = 2) (hc : P.cellsOf f0.type = 1 ∧ P.cellsOf f1.type = 1 ∧ P.cellsOf f2.type = 1) (hb : ∀ ps : List (DataW H), (ps.map b).sum ≤ b (.agg ps))
    (h0 : ElIn enc P W base spare held f0.type (fun a => [c0 a]) k0 w0 b) (h1 : ElIn enc P W base spare held f1.type (fun a => [c1 a]) k1 w1 b) (h2 : ElIn enc P W base spare held f2.type (fun a => [c2 a]) k2 w2 b) :
    ElIn enc P W base spare held t (fun q : A0 × A1 × A2 => [c0 q.1, c1 q.2.1, c2 q.2.2]) (fun q => k0 q.1 ∧ k1 q.2.1 ∧ k2 q.2.2) (fun q => w0 q.1 + w1 q.2.1 + w2 q.2.2) b := fun n cs x h => by
  obtain ⟨xs, m, _, rfl, hl, hxl, hf⟩ := DataW.trod_struct ht h
  rw [hz] at hl
  match xs, hxl, cs, hl with
  | [y0, y1, y2], _, [v0, v1, v2], _ =>
    obtain ⟨o0, o1, o2⟩ := ho
    obtain ⟨z0, z1, z2⟩ := hc
    have g0 := hf 0 f0 rfl
    simp [o0, z0] at g0
    have g1 := hf 1 f1 rfl
    simp [o1, z1] at g1
    have g2 := hf 2 f2 rfl
    simp [o2, z2] at g2
    obtain ⟨a0, e0, p0, u0⟩ := h0 _ _ _ g0
    simp only [List.cons.injEq, and_true] at e0
    obtain ⟨a1, e1, p1, u1⟩ := h1 _ _ _ g1
    simp only [List.cons.injEq, and_true] at e1
    obtain ⟨a2, e2, p2, u2⟩ := h2 _ _ _ g2
    simp only [List.cons.injEq, and_true] at e2
    refine ⟨(a0, a1, a2), by rw [e0, e1, e2], ⟨p0, p1, p2⟩, ?_⟩
    have := hb ([y0, y1, y2].map (·.1))
    simp only [List.map_cons, List.map_nil, List.sum_cons, List.sum_nil] at this ⊢
    omega
theorem elIn_struct4 {t : TypeId} {f0 f1 f2 f3 : Field} {A0 A1 A2 A3 : Type} {c0 : A0 → Value} {c1 : A1 → Value} {c2 : A2 → Value} {c3 : A3 → Value} {k0 : A0 → Prop} {k1 : A1 → Prop} {k2 : A2 → Prop} {k3 : A3 → Prop} {w0 : A0 → Nat} {w1 : A1 → Nat} {w2 : A2 → Nat} {w3 : A3 → Nat} {b : DataW H → Nat} (ht : P.underlying t = some (.struct #[f0, f1, f2, f3])) (hz : P.cellsOf t = 4) (ho : f0.offset = 0 ∧ f1.offset = 1 ∧ f2.offset = 2 ∧ f3.offset = 3) (hc : P.cellsOf f0.type = 1 ∧ P.cellsOf f1.type = 1 ∧ P.cellsOf f2.type = 1 ∧ P.cellsOf f3.type = 1) (hb : ∀ ps : List (DataW H), (ps.map b).sum ≤ b (.agg ps))
    (h0 : ElIn enc P W base spare held f0.type (fun a => [c0 a]) k0 w0 b) (h1 : ElIn enc P W base spare held f1.type (fun a => [c1 a]) k1 w1 b) (h2 : ElIn enc P W base spare held f2.type (fun a => [c2 a]) k2 w2 b) (h3 : ElIn enc P W base spare held f3.type (fun a => [c3 a]) k3 w3 b) :
    ElIn enc P W base spare held t (fun q : A0 × A1 × A2 × A3 => [c0 q.1, c1 q.2.1, c2 q.2.2.1, c3 q.2.2.2]) (fun q => k0 q.1 ∧ k1 q.2.1 ∧ k2 q.2.2.1 ∧ k3 q.2.2.2) (fun q => w0 q.1 + w1 q.2.1 + w2 q.2.2.1 + w3 q.2.2.2) b := fun n cs x h => by
  obtain ⟨xs, m, _, rfl, hl, hxl, hf⟩ := DataW.trod_struct ht h
  rw [hz] at hl
  match xs, hxl, cs, hl with
  | [y0, y1, y2, y3], _, [v0, v1, v2, v3], _ =>
    obtain ⟨o0, o1, o2, o3⟩ := ho
    obtain ⟨z0, z1, z2, z3⟩ := hc
    have g0 := hf 0 f0 rfl
    simp [o0, z0] at g0
    have g1 := hf 1 f1 rfl
    simp [o1, z1] at g1
    have g2 := hf 2 f2 rfl
    simp [o2, z2] at g2
    have g3 := hf 3 f3 rfl
    simp [o3, z3] at g3
    obtain ⟨a0, e0, p0, u0⟩ := h0 _ _ _ g0
    simp only [List.cons.injEq, and_true] at e0
    obtain ⟨a1, e1, p1, u1⟩ := h1 _ _ _ g1
    simp only [List.cons.injEq, and_true] at e1
    obtain ⟨a2, e2, p2, u2⟩ := h2 _ _ _ g2
    simp only [List.cons.injEq, and_true] at e2
    obtain ⟨a3, e3, p3, u3⟩ := h3 _ _ _ g3
    simp only [List.cons.injEq, and_true] at e3
    refine ⟨(a0, a1, a2, a3), by rw [e0, e1, e2, e3], ⟨p0, p1, p2, p3⟩, ?_⟩
    have := hb ([y0, y1, y2, y3].map (·.1))
    simp only [List.map_cons, List.map_nil, List.sum_cons, List.sum_nil] at this ⊢
    omega
theorem elIn_struct5 {t : TypeId} {f0 f1 f2 f3 f4 : Field} {A0 A1 A2 A3 A4 : Type} {c0 : A0 → Value} {c1 : A1 → Value} {c2 : A2 → Value} {c3 : A3 → Value} {c4 : A4 → Value} {k0 : A0 → Prop} {k1 : A1 → Prop} {k2 : A2 → Prop} {k3 : A3 → Prop} {k4 : A4 → Prop} {w0 : A0 → Nat} {w1 : A1 → Nat} {w2 : A2 → Nat} {w3 : A3 → Nat} {w4 : A4 → Nat} {b : DataW H → Nat} (ht : P.underlying t = some (.struct #[f0, f1, f2, f3, f4])) (hz : P.cellsOf t = 5) (ho : f0.offset = 0 ∧ f1.offset = 1 ∧ f2.offset = 2 ∧ f3.offset = 3 ∧ f4.offset = 4) (hc : P.cellsOf f0.type = 1 ∧ P.cellsOf f1.type = 1 ∧ P.cellsOf f2.type = 1 ∧ P.cellsOf f3.type = 1 ∧ P.cellsOf f4.type = 1) (hb : ∀ ps : List (DataW H), (ps.map b).sum ≤ b (.agg ps))
    (h0 : ElIn enc P W base spare held f0.type (fun a => [c0 a]) k0 w0 b) (h1 : ElIn enc P W base spare held f1.type (fun a => [c1 a]) k1 w1 b) (h2 : ElIn enc P W base spare held f2.type (fun a => [c2 a]) k2 w2 b) (h3 : ElIn enc P W base spare held f3.type (fun a => [c3 a]) k3 w3 b) (h4 : ElIn enc P W base spare held f4.type (fun a => [c4 a]) k4 w4 b) :
    ElIn enc P W base spare held t (fun q : A0 × A1 × A2 × A3 × A4 => [c0 q.1, c1 q.2.1, c2 q.2.2.1, c3 q.2.2.2.1, c4 q.2.2.2.2]) (fun q => k0 q.1 ∧ k1 q.2.1 ∧ k2 q.2.2.1 ∧ k3 q.2.2.2.1 ∧ k4 q.2.2.2.2) (fun q => w0 q.1 + w1 q.2.1 + w2 q.2.2.1 + w3 q.2.2.2.1 + w4 q.2.2.2.2) b := fun n cs x h => by
  obtain ⟨xs, m, _, rfl, hl, hxl, hf⟩ := DataW.trod_struct ht h
  rw [hz] at hl
  match xs, hxl, cs, hl with
  | [y0, y1, y2, y3, y4], _, [v0, v1, v2, v3, v4], _ =>
    obtain ⟨o0, o1, o2, o3, o4⟩ := ho
    obtain ⟨z0, z1, z2, z3, z4⟩ := hc
    have g0 := hf 0 f0 rfl
    simp [o0, z0] at g0
    have g1 := hf 1 f1 rfl
    simp [o1, z1] at g1
    have g2 := hf 2 f2 rfl
    simp [o2, z2] at g2
    have g3 := hf 3 f3 rfl
    simp [o3, z3] at g3
    have g4 := hf 4 f4 rfl
    simp [o4, z4] at g4
    obtain ⟨a0, e0, p0, u0⟩ := h0 _ _ _ g0
    simp only [List.cons.injEq, and_true] at e0
    obtain ⟨a1, e1, p1, u1⟩ := h1 _ _ _ g1
    simp only [List.cons.injEq, and_true] at e1
    obtain ⟨a2, e2, p2, u2⟩ := h2 _ _ _ g2
    simp only [List.cons.injEq, and_true] at e2
    obtain ⟨a3, e3, p3, u3⟩ := h3 _ _ _ g3
    simp only [List.cons.injEq, and_true] at e3
    obtain ⟨a4, e4, p4, u4⟩ := h4 _ _ _ g4
    simp only [List.cons.injEq, and_true] at e4
    refine ⟨(a0, a1, a2, a3, a4), by rw [e0, e1, e2, e3, e4], ⟨p0, p1, p2, p3, p4⟩, ?_⟩
    have := hb ([y0, y1, y2, y3, y4].map (·.1))
    simp only [List.map_cons, List.map_nil, List.sum_cons, List.sum_nil] at this ⊢
    omega
theorem elIn_struct6 {t : TypeId} {f0 f1 f2 f3 f4 f5 : Field} {A0 A1 A2 A3 A4 A5 : Type} {c0 : A0 → Value} {c1 : A1 → Value} {c2 : A2 → Value} {c3 : A3 → Value} {c4 : A4 → Value} {c5 : A5 → Value} {k0 : A0 → Prop} {k1 : A1 → Prop} {k2 : A2 → Prop} {k3 : A3 → Prop} {k4 : A4 → Prop} {k5 : A5 → Prop} {w0 : A0 → Nat} {w1 : A1 → Nat} {w2 : A2 → Nat} {w3 : A3 → Nat} {w4 : A4 → Nat} {w5 : A5 → Nat} {b : DataW H → Nat} (ht : P.underlying t = some (.struct #[f0, f1, f2, f3, f4, f5])) (hz : P.cellsOf t = 6) (ho : f0.offset = 0 ∧ f1.offset = 1 ∧ f2.offset = 2 ∧ f3.offset = 3 ∧ f4.offset = 4 ∧ f5.offset = 5) (hc : P.cellsOf f0.type = 1 ∧ P.cellsOf f1.type = 1 ∧ P.cellsOf f2.type = 1 ∧ P.cellsOf f3.type = 1 ∧ P.cellsOf f4.type = 1 ∧ P.cellsOf f5.type = 1) (hb : ∀ ps : List (DataW H), (ps.map b).sum ≤ b (.agg ps))
    (h0 : ElIn enc P W base spare held f0.type (fun a => [c0 a]) k0 w0 b) (h1 : ElIn enc P W base spare held f1.type (fun a => [c1 a]) k1 w1 b) (h2 : ElIn enc P W base spare held f2.type (fun a => [c2 a]) k2 w2 b) (h3 : ElIn enc P W base spare held f3.type (fun a => [c3 a]) k3 w3 b) (h4 : ElIn enc P W base spare held f4.type (fun a => [c4 a]) k4 w4 b) (h5 : ElIn enc P W base spare held f5.type (fun a => [c5 a]) k5 w5 b) :
    ElIn enc P W base spare held t (fun q : A0 × A1 × A2 × A3 × A4 × A5 => [c0 q.1, c1 q.2.1, c2 q.2.2.1, c3 q.2.2.2.1, c4 q.2.2.2.2.1, c5 q.2.2.2.2.2]) (fun q => k0 q.1 ∧ k1 q.2.1 ∧ k2 q.2.2.1 ∧ k3 q.2.2.2.1 ∧ k4 q.2.2.2.2.1 ∧ k5 q.2.2.2.2.2) (fun q => w0 q.1 + w1 q.2.1 + w2 q.2.2.1 + w3 q.2.2.2.1 + w4 q.2.2.2.2.1 + w5 q.2.2.2.2.2) b := fun n cs x h => by
  obtain ⟨xs, m, _, rfl, hl, hxl, hf⟩ := DataW.trod_struct ht h
  rw [hz] at hl
  match xs, hxl, cs, hl with
  | [y0, y1, y2, y3, y4, y5], _, [v0, v1, v2, v3, v4, v5], _ =>
    obtain ⟨o0, o1, o2, o3, o4, o5⟩ := ho
    obtain ⟨z0, z1, z2, z3, z4, z5⟩ := hc
    have g0 := hf 0 f0 rfl
    simp [o0, z0] at g0
    have g1 := hf 1 f1 rfl
    simp [o1, z1] at g1
    have g2 := hf 2 f2 rfl
    simp [o2, z2] at g2
    have g3 := hf 3 f3 rfl
    simp [o3, z3] at g3
    have g4 := hf 4 f4 rfl
    simp [o4, z4] at g4
    have g5 := hf 5 f5 rfl
    simp [o5, z5] at g5
    obtain ⟨a0, e0, p0, u0⟩ := h0 _ _ _ g0
    simp only [List.cons.injEq, and_true] at e0
    obtain ⟨a1, e1, p1, u1⟩ := h1 _ _ _ g1
    simp only [List.cons.injEq, and_true] at e1
    obtain ⟨a2, e2, p2, u2⟩ := h2 _ _ _ g2
    simp only [List.cons.injEq, and_true] at e2
    obtain ⟨a3, e3, p3, u3⟩ := h3 _ _ _ g3
    simp only [List.cons.injEq, and_true] at e3
    obtain ⟨a4, e4, p4, u4⟩ := h4 _ _ _ g4
    simp only [List.cons.injEq, and_true] at e4
    obtain ⟨a5, e5, p5, u5⟩ := h5 _ _ _ g5
    simp only [List.cons.injEq, and_true] at e5
    refine ⟨(a0, a1, a2, a3, a4, a5), by rw [e0, e1, e2, e3, e4, e5], ⟨p0, p1, p2, p3, p4, p5⟩, ?_⟩
    have := hb ([y0, y1, y2, y3, y4, y5].map (·.1))
    simp only [List.map_cons, List.map_nil, List.sum_cons, List.sum_nil] at this ⊢
    omega
theorem SlOk.ent {α : Type} {cells : α → List Value} {ok : α → Prop} {q : SlIn α} (h : SlOk W cells ok q) : Ent [old W] (RdL q.1 (q.2.2.flatMap cells)) := Ent.old 0 rfl h.rd (fun _ _ l r => r.mono l)
theorem flat_one {α : Type} (f : α → Value) (l : List α) : l.flatMap (fun a => [f a]) = l.map f := by
  induction l with
  | nil => rfl
  | cons a r ih => simp [ih]
theorem sum_one {α : Type} {f : α → Nat} : ∀ (l : List α), (∀ a ∈ l, 1 ≤ f a) → l.length ≤ (l.map f).sum
  | [], _ => Nat.le_refl _
  | a :: r, h => by
    have h0 := h a (by simp)
    have := sum_one r fun x hx => h x (by simp [hx])
    simp only [List.length_cons, List.map_cons, List.sum_cons]; omega
theorem mem_sum {α : Type} {f : α → Nat} : ∀ {l : List α} {a : α}, a ∈ l → f a ≤ (l.map f).sum
  | b :: r, a, h => by
    simp only [List.map_cons, List.sum_cons]
    rcases List.mem_cons.1 h with e | e
    · subst e; omega
    · have := mem_sum (f := f) e; omega
end
end Go.Proofs.Eng
