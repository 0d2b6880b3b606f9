/- rampartlaw28.HybridRefuses is true at every input of bulk at most 1048576: the statement. -/
import Derived.Test.YtdpckendkklfdaaGreatL28B
import Derived.Test.YtdpckendkklfdaaGreatInS
set_option linter.unusedVariables false
set_option linter.unusedSimpArgs false
set_option maxRecDepth 100000
namespace Go.Proofs.YtdpckendkklfdaaGreat
open Go.RowKit Go.Proofs.Eng
open Go.ChangeShapes Go.WideShapes Go.ChangeAt
theorem contract (H : Type) (enc : TypeId × Value → H) (W : World) (base : Nat) (args : Array Value) (ds gs : List (DataW H)) (before : List MemPlace)
    (hval : ∀ (j : Nat) t v, Tryz.f5.params[j]? = some t → args[j]? = some v → Value.okWide Tryz.prog W .any base t v)
    (hW : DataW.Whole enc Tryz.prog Tryz.f5.params.toList Rows.hybridRefusesSpec.vars false W args.toList ds gs before) (hk : Rows.uptoSmall H (ds ++ gs) = true) :
    Calls Tryz.prog 5 args W fun e W' => ∃ v, e = .returned v ∧ Rows.hybridRefusesSpec.post enc Tryz.prog Tryz.f5 false true false false W args v W' := by
  have hW' := hW
  obtain ⟨p, q, hA0, hV, rfl, hfz, hnd⟩ := hW
  have hA : DataW.TrodAll enc Tryz.prog W 0 (fun _ => true) true Tryz.f5.params.toList args.toList ds p := hA0
  rw [Tryz.params5] at hA hval
  obtain ⟨v0, vs0, d0, ds0, p0, q0, hargs, rfl, rfl, h0, r0⟩ := trodAll_cons hA
  obtain ⟨v1, vs1, d1, ds1, p1, q1, rfl, rfl, rfl, h1, r1⟩ := trodAll_cons r0
  obtain ⟨v2, vs2, d2, ds2, p2, q2, rfl, rfl, rfl, h2, r2⟩ := trodAll_cons r1
  obtain ⟨rfl, rfl, rfl⟩ := trodAll_nil r2
  obtain rfl : args = #[v0, v1, v2] := by cases args; simp_all
  obtain ⟨rfl, rfl⟩ := trodVars_none hV
  have hb : Rows.uptoBulkAll ([d0, d1, d2] ++ ([] : List (DataW H))) ≤ 1048576 := of_decide_eq_true hk
  simp only [List.append_nil, Rows.uptoBulkAll] at hb
  obtain ⟨a0, rfl, o0, w0⟩ := arg_slice Tryz.underlying24 (hval 0 24 v0 rfl rfl) h0 in_strings
  obtain ⟨a1, rfl, o1, w1⟩ := arg_slice Tryz.underlying42 (hval 1 42 v1 rfl rfl) h1 in_slims
  obtain ⟨n, rfl, hd2, hp2, w2⟩ := open_int Tryz.underlying3 (hval 2 3 v2 rfl rfl) h2
  subst hd2 hp2
  have hlt : ∀ x ∈ (p0 ++ (p1 ++ ([] ++ []))), x.block < W.heap.size := fun x hx => hW'.lt x (by simpa using hx)
  have hn1 : a1.2.2.length ≤ 1099511627776 := by
    have := sum_one (f := fun q : SlimQ => q.1.size + 1 + 1 + (q.2.2.1.size + 1) + ((q.2.2.2.2.2.map fun _ => 1).sum + 1)) a1.2.2 (fun s _ => by omega)
    omega
  have hV1 := slims_came o1 (by omega)
  have h := l28_HybridRefuses_c (A := a0.1) (n := a0.2.2.length) (c := a0.2.1) (d := a1.2.1) (z := n) (Sat.start W) hV1 (by rw [List.length_map]; exact hn1)
  rw [List.length_map] at h
  refine h.mono fun e W' ⟨he, hs⟩ => ?_
  subst he
  have hB := hs.below
  refine ⟨_, rfl, _, _, _, [], (p0 ++ (p1 ++ ([] ++ []))), [], hW', ?_, ?_, rfl, hB.frame _, fun h => by cases h⟩
  · exact trodAll_cons_mk (shut_bool Tryz.underlying4 _) trodAll_mk0
  · exact trodAll_cons_mk (Below.trod laidF (by kernel_rfl) (by decide) h0 hB (fun x hx => hlt x (by simp [hx]))) (trodAll_cons_mk (Below.trod laidF (by kernel_rfl) (by decide) h1 hB (fun x hx => hlt x (by simp [hx]))) (trodAll_cons_mk (shut_int Tryz.underlying3 w2) trodAll_mk0))
theorem lifted (os : Os) (started : os.Started) (H : Type) (enc : TypeId × Value → H) (F : Stop.Interp) :
    ReturnsInHanded {} Tryz.checked os 5 .any ((Rows.OpenSpec.upto Rows.hybridRefusesSpec).pre6 enc Tryz.prog Tryz.f5 Rows.hybridRefusesUptoRow.domain false) (((Rows.OpenSpec.upto Rows.hybridRefusesSpec).at F).post enc Tryz.prog Tryz.f5 false true false false) := by
  refine returnsInHanded_of_cond (C := Tryz.checked) (s := Rows.OpenSpec.upto Rows.hybridRefusesSpec) (k := Rows.uptoSmall) rfl ownKnobF started (by kernel_rfl) Tryz.func5
    (OpenSpec.witness (enc := enc) (C := Tryz.checked) (s := Rows.OpenSpec.upto Rows.hybridRefusesSpec) (k := Rows.uptoSmall) rfl false ⟨#[], #[.slice none 0 0, .slice none 0 0, .int .i64 0], []⟩ 8 (by kernel_rfl) (by kernel_rfl) (by kernel_rfl)
      (x := ([.nil, .nil, .lit (.int .i64 0)], [], [])) (by kernel_rfl) rfl (by kernel_rfl)) ?_
  intro W base args ds gs before hval hW _ hk _
  exact contract H enc W base args ds gs before hval hW hk
theorem hybridRefuses_holds : Rows.HybridRefusesUptoSaid :=
  OpenClaim.holds_of_cond 5 Tryz.f5 rfl rfl rfl rfl rfl rfl rfl ⟨rfl, rfl, rfl, rfl, rfl⟩ rfl rfl rfl rfl rfl (by kernel_rfl) Tryz.func5 (by kernel_rfl)
    (of_decide_eq_true (by kernel_rfl)) (by unfold Func.isWrapper; first | (rw [if_pos (by decide +kernel)]; kernel_rfl) | (rw [if_neg (by decide +kernel)]; exact ⟨rfl, rfl⟩))
    (fun os started H enc _ F => lifted os started H enc F)
#print axioms hybridRefuses_holds
end Go.Proofs.YtdpckendkklfdaaGreat
