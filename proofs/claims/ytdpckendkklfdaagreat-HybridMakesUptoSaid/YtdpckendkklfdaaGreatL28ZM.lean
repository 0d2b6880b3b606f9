/- rampartlaw28.HybridMakes is true at every input of bulk at most 1048576: the statement. -/
import Derived.Test.YtdpckendkklfdaaGreatL28C
import Derived.Test.YtdpckendkklfdaaGreatInS
set_option linter.unusedVariables false
set_option linter.unusedSimpArgs false
set_option maxRecDepth 100000
namespace Go.Proofs.YtdpckendkklfdaaGreat
open Go.RowKit Go.Proofs.Eng
open Go.ChangeShapes Go.WideShapes Go.ChangeAt
theorem contract (H : Type) (enc : TypeId × Value → H) (W : World) (base : Nat) (args : Array Value) (ds gs : List (DataW H)) (before : List MemPlace)
    (hval : ∀ (j : Nat) t v, Tryz.f3.params[j]? = some t → args[j]? = some v → Value.okWide Tryz.prog W .any base t v)
    (hW : DataW.Whole enc Tryz.prog Tryz.f3.params.toList Rows.hybridMakesSpec.vars false W args.toList ds gs before) (hk : Rows.uptoSmall H (ds ++ gs) = true) :
    Calls Tryz.prog 3 args W fun e W' => ∃ v, e = .returned v ∧ Rows.hybridMakesSpec.post enc Tryz.prog Tryz.f3 false true false false W args v W' := by
  have hW' := hW
  obtain ⟨p, q, hA0, hV, rfl, hfz, hnd⟩ := hW
  have hA : DataW.TrodAll enc Tryz.prog W 0 (fun _ => true) true Tryz.f3.params.toList args.toList ds p := hA0
  rw [Tryz.params3] at hA hval
  obtain ⟨v0, vs0, d0, ds0, p0, q0, hargs, rfl, rfl, h0, r0⟩ := trodAll_cons hA
  obtain ⟨v1, vs1, d1, ds1, p1, q1, rfl, rfl, rfl, h1, r1⟩ := trodAll_cons r0
  obtain ⟨v2, vs2, d2, ds2, p2, q2, rfl, rfl, rfl, h2, r2⟩ := trodAll_cons r1
  obtain ⟨rfl, rfl, rfl⟩ := trodAll_nil r2
  obtain rfl : args = #[v0, v1, v2] := by cases args; simp_all
  obtain ⟨rfl, rfl⟩ := trodVars_none hV
  have hb : Rows.uptoBulkAll ([d0, d1, d2] ++ ([] : List (DataW H))) ≤ 1048576 := of_decide_eq_true hk
  simp only [List.append_nil, Rows.uptoBulkAll] at hb
  obtain ⟨a0, rfl, o0, w0⟩ := arg_struct h0 in_version (fun a => by show 4 ≠ 1; decide)
  obtain ⟨n1, rfl, hd1, hp1, w1⟩ := open_int Tryz.underlying3 (hval 1 3 v1 rfl rfl) h1
  subst hd1 hp1
  obtain ⟨n, rfl, hd2, hp2, w2⟩ := open_int Tryz.underlying3 (hval 2 3 v2 rfl rfl) h2
  subst hd2 hp2
  have hlt : ∀ x ∈ (p0 ++ ([] ++ ([] ++ []))), x.block < W.heap.size := fun x hx => hW'.lt x (by simpa using hx)
  have hn0 : a0.2.2.2.2.2.length ≤ 1048576 := by have := sum_one (f := fun s : ByteArray => s.size + 1) a0.2.2.2.2.2 (fun s _ => by omega); omega
  have e0 : Ent [old W] (RdL a0.2.2.2.1 (a0.2.2.2.2.2.map .string)) := by have := o0.2.2.2.ent; rw [flat_one] at this; exact this
  refine (l28_HybridMakes_c (v := a0.ver) (b := n1) (e := n) (Sat.start W) e0 hn0 (fun k hk => by have := mem_sum (f := fun s : ByteArray => s.size + 1) (show k ∈ a0.2.2.2.2.2 from hk); omega)).mono fun e W' ⟨he, hs⟩ => ?_
  subst he
  have hB := hs.below
  refine ⟨_, rfl, _, _, _, [], (p0 ++ ([] ++ ([] ++ []))), [], hW', ?_, ?_, rfl, hB.frame _, fun h => by cases h⟩
  · exact trodAll_cons_mk (shut_bool Tryz.underlying4 _) trodAll_mk0
  · exact trodAll_cons_mk (Below.trod laidF (by kernel_rfl) (by decide) h0 hB (fun x hx => hlt x (by simp [hx]))) (trodAll_cons_mk (shut_int Tryz.underlying3 w1) (trodAll_cons_mk (shut_int Tryz.underlying3 w2) trodAll_mk0))
theorem lifted (os : Os) (started : os.Started) (H : Type) (enc : TypeId × Value → H) (F : Stop.Interp) :
    ReturnsInHanded {} Tryz.checked os 3 .any ((Rows.OpenSpec.upto Rows.hybridMakesSpec).pre6 enc Tryz.prog Tryz.f3 Rows.hybridMakesUptoRow.domain false) (((Rows.OpenSpec.upto Rows.hybridMakesSpec).at F).post enc Tryz.prog Tryz.f3 false true false false) := by
  refine returnsInHanded_of_cond (C := Tryz.checked) (s := Rows.OpenSpec.upto Rows.hybridMakesSpec) (k := Rows.uptoSmall) rfl ownKnobF started (by kernel_rfl) Tryz.func3
    (OpenSpec.witness (enc := enc) (C := Tryz.checked) (s := Rows.OpenSpec.upto Rows.hybridMakesSpec) (k := Rows.uptoSmall) rfl false ⟨#[], #[.agg #[.string ⟨#[]⟩, .int .u64 0, .string ⟨#[]⟩, .slice none 0 0], .int .i64 0, .int .i64 0], []⟩ 8 (by kernel_rfl) (by kernel_rfl) (by kernel_rfl)
      (x := ([.agg [.lit (.string []), .lit (.int .u64 0), .lit (.string []), .nil], .lit (.int .i64 0), .lit (.int .i64 0)], [], [])) (by kernel_rfl) rfl (by kernel_rfl)) ?_
  intro W base args ds gs before hval hW _ hk _
  exact contract H enc W base args ds gs before hval hW hk
theorem hybridMakes_holds : Rows.HybridMakesUptoSaid :=
  OpenClaim.holds_of_cond 3 Tryz.f3 rfl rfl rfl rfl rfl rfl rfl ⟨rfl, rfl, rfl, rfl, rfl⟩ rfl rfl rfl rfl rfl (by kernel_rfl) Tryz.func3 (by kernel_rfl)
    (of_decide_eq_true (by kernel_rfl)) (by unfold Func.isWrapper; first | (rw [if_pos (by decide +kernel)]; kernel_rfl) | (rw [if_neg (by decide +kernel)]; exact ⟨rfl, rfl⟩))
    (fun os started H enc _ F => lifted os started H enc F)
#print axioms hybridMakes_holds
end Go.Proofs.YtdpckendkklfdaaGreat
