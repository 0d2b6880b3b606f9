/- What came in, at this seat: the readings' bulk. -/
import Derived.Test.YtdpckendkklfdaaGreatBulk
import Derived.Test.YtdpckendkklfdaaGreatEngO
import Derived.WalkKit
import Derived.ProofKit
import Derived.OpenShut
import Derived.JoinedCond
import Derived.Carry
set_option linter.unusedVariables false
set_option linter.unusedSimpArgs false
set_option maxRecDepth 100000
namespace Go.Proofs.YtdpckendkklfdaaGreat
open Go.RowKit Go.Proofs.Eng
open Go.ChangeShapes Go.WideShapes Go.ChangeAt
theorem ownKnobF : ownKnob Tryz.prog.godebug = none := by kernel_rfl
theorem laidF : laidOutB Tryz.prog = true := by kernel_rfl
theorem all_sum {H : Type} (l : List (DataW H)) : Rows.uptoBulkAll l = (l.map Rows.uptoBulk).sum := by
  induction l with
  | nil => simp [Rows.uptoBulkAll]
  | cons x r ih => simp only [Rows.uptoBulkAll, List.map_cons, List.sum_cons, ih]
theorem bulk_slice {H : Type} (es sp : List (DataW H)) : (es.map Rows.uptoBulk).sum + 1 ≤ Rows.uptoBulk (.slice es sp) := by
  rw [← all_sum]; exact bulks.slice_elems es sp
theorem bulk_agg {H : Type} (ps : List (DataW H)) : (ps.map Rows.uptoBulk).sum ≤ Rows.uptoBulk (.agg ps) := by
  rw [← all_sum]; simp [Rows.uptoBulk]
theorem bulk_nil {H : Type} : 1 ≤ Rows.uptoBulk (.nil : DataW H) := bulks.one_le _
theorem bulk_string {H : Type} (bs : List UInt8) : bs.length + 1 ≤ Rows.uptoBulk (DataW.lit (H := H) (.string bs)) := by rw [bulks.string_eq]; exact Nat.le_refl _
theorem bulk_int {H : Type} (kd : IntKind) (z : Int) : 1 ≤ Rows.uptoBulk (DataW.lit (H := H) (.int kd z)) := bulks.one_le _
section
variable {H : Type} {enc : TypeId × Value → H} {W : World} {base : Nat} {spare : Nat → Bool} {held : Bool}
theorem in_strings : ElIn enc Tryz.prog W base spare held 24 (fun q : SlIn ByteArray => [q.v]) (SlOk W (fun s => [.string s]) (fun s => s.size ≤ maxLen)) (fun q => (q.2.2.map fun s => s.size + 1).sum + 1) Rows.uptoBulk :=
  elIn_slice (k := 1) Tryz.underlying24 (by kernel_rfl) (fun _ => rfl) bulk_slice bulk_nil (elIn_string Tryz.underlying9 bulk_string)
theorem in_pair : ElIn enc Tryz.prog W base spare held 97 (fun q : ByteArray × ByteArray => [.string q.1, .string q.2]) (fun q => q.1.size ≤ maxLen ∧ q.2.size ≤ maxLen) (fun q => q.1.size + 1 + (q.2.size + 1)) Rows.uptoBulk :=
  elIn_struct2 Tryz.underlying97 (by kernel_rfl) ⟨rfl, rfl⟩ ⟨by kernel_rfl, by kernel_rfl⟩ bulk_agg (elIn_string Tryz.underlying9 bulk_string) (elIn_string Tryz.underlying9 bulk_string)
theorem in_pairs : ElIn enc Tryz.prog W base spare held 98 (fun q : SlIn (ByteArray × ByteArray) => [q.v]) (SlOk W (fun q => [.string q.1, .string q.2]) (fun q => q.1.size ≤ maxLen ∧ q.2.size ≤ maxLen)) (fun q => (q.2.2.map fun q => q.1.size + 1 + (q.2.size + 1)).sum + 1) Rows.uptoBulk :=
  elIn_slice (k := 2) Tryz.underlying98 (by kernel_rfl) (fun _ => rfl) bulk_slice bulk_nil in_pair
end
/-- an argument that is a slice -/
theorem arg_slice {α : Type} {H : Type} {enc : TypeId × Value → H} {W : World} {base : Nat} {t e : TypeId} {v : Value} {d : DataW H} {p : List MemPlace} {ok : SlIn α → Prop} {wt : SlIn α → Nat} (ht : Tryz.prog.underlying t = some (.slice e)) (hval : Value.okWide Tryz.prog W .any base t v) (h : DataW.Trod enc Tryz.prog W 0 (fun _ => true) true t v d p)
    (hi : ElIn enc Tryz.prog W 0 (fun _ => true) true t (fun q : SlIn α => [q.v]) ok wt Rows.uptoBulk) : ∃ q : SlIn α, v = q.v ∧ ok q ∧ wt q ≤ Rows.uptoBulk d := by
  obtain ⟨a0, len, cap, rfl⟩ := okWide_slice ht hval
  obtain ⟨fuel, hf⟩ := h
  obtain ⟨q, h1, h2, h3⟩ := hi _ _ _ hf
  refine ⟨q, ?_, h2, h3⟩
  simp only [Value.cells, List.cons.injEq, and_true] at h1
  exact h1
end Go.Proofs.YtdpckendkklfdaaGreat
