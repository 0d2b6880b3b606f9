/- rampartlaw17.FixKeeps is true at every input of bulk at most 1048576: the statement. -/
import Derived.Test.YtdpckendkklfdaaL17R
import Derived.Test.YtdpckendkklfdaaBulk
import Derived.WalkKit
import Derived.ProofKit
import Derived.OpenShut
import Derived.JoinedCond
import Derived.Carry
set_option linter.unusedVariables false
set_option linter.unusedSimpArgs false
set_option maxRecDepth 100000
namespace Go.Proofs.Ytdpckendkklfdaa
open Go.RowKit Go.Proofs.Eng
open Go.ChangeShapes Go.WideShapes Go.ChangeAt
theorem ownKnobF : ownKnob Try.prog.godebug = none := by kernel_rfl
theorem laidF : laidOutB Try.prog = true := by kernel_rfl
/-- a slice of numbers that came in, as what can be read -/
theorem ints_in {H : Type} {enc : TypeId × Value → H} {W : World} {base : Nat} {v : Value} {d : DataW H} {p : List MemPlace} (hval : Value.okWide Try.prog W .any base 22 v) (h : DataW.Trod enc Try.prog W 0 (fun _ => true) true 22 v d p) (hd : Rows.uptoBulk d ≤ 1048576) :
    ∃ (M : Option Addr) (c : Nat) (xs : List Int), v = .slice M xs.length c ∧ xs.length ≤ c ∧ xs.length ≤ 1048576 ∧ Ent [old W] (RdL M (xs.map (.int .i64))) := by
  obtain ⟨a0, len, cap, rfl⟩ := okWide_slice Try.underlying22 hval
  obtain ⟨fuel, hf⟩ := h
  have hc : Try.prog.cellsOf 3 = 1 := by kernel_rfl
  rcases open_ints Try.underlying22 Try.underlying3 hc hf with ⟨hcs, hx⟩ | ⟨a, len', cap', zs, hcs, _, hle, hmax, hzl, hx, hcell, hwf⟩
  · simp only [Value.cells, List.cons.injEq, and_true] at hcs
    cases hcs
    exact ⟨none, 0, [], rfl, Nat.le_refl _, Nat.zero_le _, rd_nil⟩
  · simp only [Value.cells, List.cons.injEq, and_true] at hcs
    cases hcs
    simp only [if_true] at hzl
    have hlen : (zs.take len).length = len := by rw [List.length_take, hzl]; omega
    refine ⟨some a, cap, zs.take len, by rw [hlen], by omega, ?_, ?_⟩
    · simp only [Prod.mk.injEq] at hx
      rw [hx.1] at hd
      have := bulks.slice_le (lits (H := H) .i64 (zs.take len)) (lits .i64 (zs.drop len))
      have e : (lits (H := H) .i64 (zs.take len)).length = (zs.take len).length := by simp [lits]
      omega
    · refine Ent.old 0 rfl (fun k u hu => ⟨a, rfl, ?_⟩) (fun _ _ le r => r.mono le)
      have hk : k < (zs.take len).length := by simpa using (List.getElem?_eq_some_iff.1 hu).1
      have hkl : k < zs.length := by rw [List.length_take] at hk; omega
      show W.cell? (a.add k) = some u
      rw [hcell k hkl]
      rw [List.getElem?_map, List.getElem?_take, if_pos (by omega), List.getElem?_eq_getElem hkl] at hu
      simp only [Option.map_some, Option.some.injEq] at hu
      rw [← hu]; simp [hkl]
theorem contract (H : Type) (enc : TypeId × Value → H) (W : World) (base : Nat) (args : Array Value) (ds gs : List (DataW H)) (before : List MemPlace)
    (hval : ∀ (j : Nat) t v, Try.f3.params[j]? = some t → args[j]? = some v → Value.okWide Try.prog W .any base t v)
    (hW : DataW.Whole enc Try.prog Try.f3.params.toList Rows.fixKeepsSpec.vars false W args.toList ds gs before) (hk : Rows.uptoSmall H (ds ++ gs) = true) :
    Calls Try.prog 3 args W fun e W' => ∃ v, e = .returned v ∧ Rows.fixKeepsSpec.post enc Try.prog Try.f3 false true false false W args v W' := by
  have hW' := hW
  obtain ⟨p, q, hA0, hV, rfl, hfz, hnd⟩ := hW
  have hA : DataW.TrodAll enc Try.prog W 0 (fun _ => true) true Try.f3.params.toList args.toList ds p := hA0
  rw [Try.params3] at hA hval
  obtain ⟨v0, vs0, d0, ds0, p0, q0, hargs, rfl, rfl, h0, r0⟩ := trodAll_cons hA
  obtain ⟨v1, vs1, d1, ds1, p1, q1, rfl, rfl, rfl, h1, r1⟩ := trodAll_cons r0
  obtain ⟨v2, vs2, d2, ds2, p2, q2, rfl, rfl, rfl, h2, r2⟩ := trodAll_cons r1
  obtain ⟨rfl, rfl, rfl⟩ := trodAll_nil r2
  obtain rfl : args = #[v0, v1, v2] := by cases args; simp_all
  obtain ⟨rfl, rfl⟩ := trodVars_none hV
  have hb : Rows.uptoBulkAll ([d0, d1, d2] ++ ([] : List (DataW H))) ≤ 1048576 := of_decide_eq_true hk
  simp only [List.append_nil, Rows.uptoBulkAll] at hb
  obtain ⟨M, c, masks, rfl, hmc, hml, hM⟩ := ints_in (hval 0 22 v0 rfl rfl) h0 (by omega)
  obtain ⟨K, d, picks, rfl, hpc, hpl, hK⟩ := ints_in (hval 2 22 v2 rfl rfl) h2 (by omega)
  obtain ⟨read, rfl, hd1, hp1, w1⟩ := open_int Try.underlying3 (hval 1 3 v1 rfl rfl) h1
  subst hd1 hp1
  have hlt : ∀ x ∈ (p0 ++ ([] ++ (p2 ++ []))), x.block < W.heap.size := fun x hx => hW'.lt x (by simpa using hx)
  refine (law17_FixKeeps_c (c2 := 0) (Sat.start W) hM hK hmc (by omega) (by omega)).mono fun e W' ⟨he, hs⟩ => ?_
  subst he
  have hB := hs.below
  refine ⟨_, rfl, _, _, _, [], (p0 ++ ([] ++ (p2 ++ []))), [], hW', ?_, ?_, rfl, hB.frame _, fun h => by cases h⟩
  · exact trodAll_cons_mk (shut_bool Try.underlying4 _) trodAll_mk0
  · exact trodAll_cons_mk (Below.trod laidF (by kernel_rfl) (by decide) h0 hB (fun x hx => hlt x (by simp [hx]))) (trodAll_cons_mk (shut_int Try.underlying3 w1) (trodAll_cons_mk (Below.trod laidF (by kernel_rfl) (by decide) h2 hB (fun x hx => hlt x (by simp [hx]))) trodAll_mk0))
theorem lifted (os : Os) (started : os.Started) (H : Type) (enc : TypeId × Value → H) (F : Stop.Interp) :
    ReturnsInHanded {} Try.checked os 3 .any ((Rows.OpenSpec.upto Rows.fixKeepsSpec).pre6 enc Try.prog Try.f3 Rows.fixKeepsUptoRow.domain false) (((Rows.OpenSpec.upto Rows.fixKeepsSpec).at F).post enc Try.prog Try.f3 false true false false) := by
  refine returnsInHanded_of_cond (C := Try.checked) (s := Rows.OpenSpec.upto Rows.fixKeepsSpec) (k := Rows.uptoSmall) rfl ownKnobF started (by kernel_rfl) Try.func3
    (OpenSpec.witness (enc := enc) (C := Try.checked) (s := Rows.OpenSpec.upto Rows.fixKeepsSpec) (k := Rows.uptoSmall) rfl false ⟨#[], #[.slice none 0 0, .int .i64 0, .slice none 0 0], []⟩ 8 (by kernel_rfl) (by kernel_rfl) (by kernel_rfl)
      (x := ([.nil, .lit (.int .i64 0), .nil], [], [])) (by kernel_rfl) rfl (by kernel_rfl)) ?_
  intro W base args ds gs before hval hW _ hk _
  exact contract H enc W base args ds gs before hval hW hk
theorem fixKeeps_holds : Rows.FixKeepsUptoSaid :=
  OpenClaim.holds_of_cond 3 Try.f3 rfl rfl rfl rfl rfl rfl rfl ⟨rfl, rfl, rfl, rfl, rfl⟩ rfl rfl rfl rfl rfl (by kernel_rfl) Try.func3 (by kernel_rfl)
    (of_decide_eq_true (by kernel_rfl)) (by unfold Func.isWrapper; first | (rw [if_pos (by decide +kernel)]; kernel_rfl) | (rw [if_neg (by decide +kernel)]; exact ⟨rfl, rfl⟩))
    (fun os started H enc _ F => lifted os started H enc F)
#print axioms fixKeeps_holds
end Go.Proofs.Ytdpckendkklfdaa
