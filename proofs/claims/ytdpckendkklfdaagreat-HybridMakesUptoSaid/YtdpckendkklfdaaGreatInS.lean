/- What came in, at this seat: slim versions, versions. -/
import Derived.Test.YtdpckendkklfdaaGreatIn
import Derived.Test.YtdpckendkklfdaaGreatHyB
set_option linter.unusedVariables false
set_option linter.unusedSimpArgs false
set_option maxRecDepth 100000
namespace Go.Proofs.YtdpckendkklfdaaGreat
open Go.RowKit Go.Proofs.Eng
open Go.ChangeShapes Go.WideShapes Go.ChangeAt
section
variable {H : Type} {enc : TypeId × Value → H} {W : World} {base : Nat} {spare : Nat → Bool} {held : Bool}
theorem in_byte : ElIn enc Tryz.prog W base spare held 5 (fun b : Nat => [bV b]) (fun b => b < 256) (fun _ => 1) Rows.uptoBulk := fun n cs x h => by
  obtain ⟨z, rfl, rfl, hz⟩ := DataW.trod_int Tryz.underlying5 h
  have h1 : 0 ≤ z ∧ z < 256 := by
    simp [Lit.wf, IntKind.min, IntKind.max, IntKind.bits, IntKind.signed] at hz
    omega
  obtain ⟨k, rfl⟩ := Int.eq_ofNat_of_zero_le h1.1
  exact ⟨k, rfl, by omega, bulk_int _ _⟩
theorem in_bytes : ElIn enc Tryz.prog W base spare held 28 (fun q : Eng.SlIn Nat => [q.v]) (SlOk W (fun b => [bV b]) (fun b => b < 256)) (fun q => (q.2.2.map fun _ => 1).sum + 1) Rows.uptoBulk :=
  elIn_slice (k := 1) Tryz.underlying28 (by kernel_rfl) (fun _ => rfl) bulk_slice bulk_nil in_byte
abbrev SlimQ := ByteArray × Int × ByteArray × Eng.SlIn Nat
def SlimQ.sl (q : SlimQ) : Sl := ⟨⟨q.1, q.2.1, q.2.2.1, q.2.2.2.2.2⟩, q.2.2.2.1, q.2.2.2.2.1⟩
theorem in_slim : ElIn enc Tryz.prog W base spare held 36 (fun q : SlimQ => q.sl.cells) (fun q => q.1.size ≤ maxLen ∧ (Lit.int .u64 q.2.1).wf = true ∧ q.2.2.1.size ≤ maxLen ∧ SlOk W (fun b => [bV b]) (fun b => b < 256) q.2.2.2) (fun q => q.1.size + 1 + 1 + (q.2.2.1.size + 1) + ((q.2.2.2.2.2.map fun _ => 1).sum + 1)) Rows.uptoBulk :=
  elIn_struct4 (c0 := Value.string) (c1 := Value.int .u64) (c2 := Value.string) (c3 := fun q : Eng.SlIn Nat => q.v) Tryz.underlying36 (by kernel_rfl) ⟨rfl, rfl, rfl, rfl⟩ ⟨by kernel_rfl, by kernel_rfl, by kernel_rfl, by kernel_rfl⟩ bulk_agg (elIn_string Tryz.underlying9 bulk_string) (elIn_int Tryz.underlying23 (bulk_int _)) (elIn_string Tryz.underlying9 bulk_string) in_bytes
theorem in_slims : ElIn enc Tryz.prog W base spare held 42 (fun q : Eng.SlIn SlimQ => [q.v]) (SlOk W (fun q => q.sl.cells) (fun q => q.1.size ≤ maxLen ∧ (Lit.int .u64 q.2.1).wf = true ∧ q.2.2.1.size ≤ maxLen ∧ SlOk W (fun b => [bV b]) (fun b => b < 256) q.2.2.2)) (fun q => (q.2.2.map fun q => q.1.size + 1 + 1 + (q.2.2.1.size + 1) + ((q.2.2.2.2.2.map fun _ => 1).sum + 1)).sum + 1) Rows.uptoBulk :=
  elIn_slice (k := 4) Tryz.underlying42 (by kernel_rfl) (fun _ => rfl) bulk_slice bulk_nil in_slim
end
/-- slim versions that came in, as the walks ask for them -/
theorem slims_came {W : World} {q : Eng.SlIn SlimQ} (o : SlOk W (fun q : SlimQ => q.sl.cells) (fun q => q.1.size ≤ maxLen ∧ (Lit.int .u64 q.2.1).wf = true ∧ q.2.2.1.size ≤ maxLen ∧ SlOk W (fun b => [bV b]) (fun b => b < 256) q.2.2.2) q)
    (hb : (q.2.2.map fun q => q.1.size + 1 + 1 + (q.2.2.1.size + 1) + ((q.2.2.2.2.2.map fun _ => 1).sum + 1)).sum + 1 ≤ 1099511627776) : SlimsIn [old W] q.1 (q.2.2.map SlimQ.sl) := by
  have hn : q.2.2.length ≤ 1099511627776 := by have := sum_one (f := fun q : SlimQ => q.1.size + 1 + 1 + (q.2.2.1.size + 1) + ((q.2.2.2.2.2.map fun _ => 1).sum + 1)) q.2.2 (fun s _ => by omega); omega
  refine ⟨by rw [List.flatMap_map]; exact o.ent, fun v hv => ?_, by rw [List.length_map]; omega⟩
  obtain ⟨x, hx, rfl⟩ := List.mem_map.1 hv
  obtain ⟨h1, h2, h3, h4⟩ := o.each x hx
  have hw := mem_sum (f := fun q : SlimQ => q.1.size + 1 + 1 + (q.2.2.1.size + 1) + ((q.2.2.2.2.2.map fun _ => 1).sum + 1)) hx
  have hfl : x.2.2.2.2.2.length ≤ 1099511627776 := by have := sum_one (f := fun _ : Nat => 1) x.2.2.2.2.2 (fun _ _ => Nat.le_refl 1); omega
  refine ⟨?_, fun b hb => h4.each b hb, h4.cap, hfl, by show x.1.size ≤ 4611686018427387904; omega⟩
  have := h4.ent; rw [flat_one] at this; exact this
section
variable {H : Type} {enc : TypeId × Value → H} {W : World} {base : Nat} {spare : Nat → Bool} {held : Bool}
abbrev VerQ := ByteArray × Int × ByteArray × Eng.SlIn ByteArray
def VerQ.ver (q : VerQ) : Ver := ⟨⟨q.1, q.2.1, q.2.2.1, q.2.2.2.2.2⟩, q.2.2.2.1, q.2.2.2.2.1⟩
theorem in_version : ElIn enc Tryz.prog W base spare held 26 (fun q : VerQ => q.ver.cells) (fun q => q.1.size ≤ maxLen ∧ (Lit.int .u64 q.2.1).wf = true ∧ q.2.2.1.size ≤ maxLen ∧ SlOk W (fun s => [.string s]) (fun s => s.size ≤ maxLen) q.2.2.2) (fun q => q.1.size + 1 + 1 + (q.2.2.1.size + 1) + ((q.2.2.2.2.2.map fun s => s.size + 1).sum + 1)) Rows.uptoBulk :=
  elIn_struct4 (c0 := Value.string) (c1 := Value.int .u64) (c2 := Value.string) (c3 := fun q : Eng.SlIn ByteArray => q.v) Tryz.underlying26 (by kernel_rfl) ⟨rfl, rfl, rfl, rfl⟩ ⟨by kernel_rfl, by kernel_rfl, by kernel_rfl, by kernel_rfl⟩ bulk_agg (elIn_string Tryz.underlying9 bulk_string) (elIn_int Tryz.underlying23 (bulk_int _)) (elIn_string Tryz.underlying9 bulk_string) in_strings
end
/-- an argument that is a struct -/
theorem arg_struct {α : Type} {H : Type} {enc : TypeId × Value → H} {W : World} {t : TypeId} {v : Value} {d : DataW H} {p : List MemPlace} {cells : α → List Value} {ok : α → Prop} {wt : α → Nat} (h : DataW.Trod enc Tryz.prog W 0 (fun _ => true) true t v d p)
    (hi : ElIn enc Tryz.prog W 0 (fun _ => true) true t cells ok wt Rows.uptoBulk) (hl : ∀ a, (cells a).length ≠ 1) : ∃ q : α, v = .agg (cells q).toArray ∧ ok q ∧ wt q ≤ Rows.uptoBulk d := by
  obtain ⟨fuel, hf⟩ := h
  obtain ⟨q, h1, h2, h3⟩ := hi _ _ _ hf
  refine ⟨q, ?_, h2, h3⟩
  cases v with
  | agg cs => simp only [Value.cells] at h1; rw [← h1]
  | _ => exact absurd (congrArg List.length h1).symm (fun e => hl q (by simpa [Value.cells] using e))
end Go.Proofs.YtdpckendkklfdaaGreat
