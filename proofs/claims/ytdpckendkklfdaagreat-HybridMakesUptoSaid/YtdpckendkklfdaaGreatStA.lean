/- The walks of package store, first part: IDs searched and inserted, what may be put. -/
import Derived.Test.YtdpckendkklfdaaGreatFixA
import Derived.Test.YtdpckendkklfdaaGreatSumA
set_option linter.unusedVariables false
set_option linter.unusedSimpArgs false
set_option maxRecDepth 100000
namespace Go.Proofs.YtdpckendkklfdaaGreat
open Go.RowKit Go.Proofs.Eng
theorem slices_isNaN_ID_c {E w : World} {L : List Ch} {a : Int} (s : Sat E w L) : Calls Tryz.prog 232 #[.int .u64 a] w (Gives E (.bool false) L) := by
  refine enter (vs := [_]) Tryz.func232 rfl Tryz.ntmps232 rfl s ?_
  refine pk_seq ?_
  refine pk_region ?_
  refine pk_val rfl rfl rfl (val_assign rfl rfl) ?_
  refine pk_nil ?_
  refine thru_on ?_
  refine pk_seq ?_
  refine pk_region ?_
  refine pk_val rfl rfl rfl (val_move rfl rfl) ?_
  refine pk_val rfl rfl rfl (val_move rfl rfl) ?_
  refine pk_val rfl rfl rfl (val_neq rfl rfl rfl) ?_
  refine pk_val rfl rfl rfl (val_assign rfl rfl) ?_
  refine pk_nil ?_
  refine thru_on ?_
  refine pk_ret ?_
  refine ret1 rfl rfl fun w s => ⟨?_, s⟩
  exact congrArg Ending.returned (congrArg Value.bool (decide_eq_false (fun h => h rfl)))
theorem cmp_isNaN_ID_c {E w : World} {L : List Ch} {a : Int} (s : Sat E w L) : Calls Tryz.prog 238 #[.int .u64 a] w (Gives E (.bool false) L) := by
  refine enter (vs := [_]) Tryz.func238 rfl Tryz.ntmps238 rfl s ?_
  refine pk_seq ?_
  refine pk_region ?_
  refine pk_val rfl rfl rfl (val_assign rfl rfl) ?_
  refine pk_nil ?_
  refine thru_on ?_
  refine pk_seq ?_
  refine pk_region ?_
  refine pk_val rfl rfl rfl (val_move rfl rfl) ?_
  refine pk_val rfl rfl rfl (val_move rfl rfl) ?_
  refine pk_val rfl rfl rfl (val_neq rfl rfl rfl) ?_
  refine pk_val rfl rfl rfl (val_assign rfl rfl) ?_
  refine pk_nil ?_
  refine thru_on ?_
  refine pk_ret ?_
  refine ret1 rfl rfl fun w s => ⟨?_, s⟩
  exact congrArg Ending.returned (congrArg Value.bool (decide_eq_false (fun h => h rfl)))
theorem cmp_Less_ID_c {E w : World} {L : List Ch} {a b : Int} (s : Sat E w L) : Calls Tryz.prog 212 #[.int .u64 a, .int .u64 b] w (Gives E (.bool (decide (a < b))) L) := by
  refine enter (vs := [_, _]) Tryz.func212 rfl Tryz.ntmps212 rfl s ?_
  refine pk_seq ?_
  refine pk_region ?_
  refine pk_val rfl rfl rfl (val_assign rfl rfl) ?_
  refine pk_nil ?_
  refine thru_on ?_
  refine pk_seq ?_
  refine pk_region ?_
  refine pk_val rfl rfl rfl (val_move rfl rfl) ?_
  refine pk_eff (eff_call1 rfl ⟨_, Tryz.func238, by kernel_rfl, rfl⟩ rfl (fun E w s => cmp_isNaN_ID_c s)) rfl rfl rfl (fun _ _ => ?_)
  refine pk_val rfl rfl rfl (val_move rfl rfl) ?_
  refine pk_guard_no rfl rfl rfl rfl rfl rfl ?_
  refine pk_guard_no rfl rfl rfl rfl rfl rfl ?_
  refine pk_guard_no rfl rfl rfl rfl rfl rfl ?_
  refine pk_val rfl rfl rfl (val_pick rfl rfl rfl rfl) ?_
  refine pk_val rfl rfl rfl (val_move rfl rfl) ?_
  refine pk_guard_yes rfl rfl rfl ?_
  refine pk_val rfl rfl rfl (val_move rfl rfl) ?_
  refine pk_guard_yes rfl rfl rfl ?_
  refine pk_val rfl rfl rfl (val_move rfl rfl) ?_
  refine pk_guard_yes rfl rfl rfl ?_
  refine pk_val rfl rfl rfl (val_lss rfl rfl rfl) ?_
  refine pk_val rfl rfl rfl (val_pick rfl rfl rfl rfl) ?_
  refine pk_val rfl rfl rfl (val_assign rfl rfl) ?_
  refine pk_nil ?_
  refine thru_on ?_
  refine pk_ret ?_
  refine ret1 rfl rfl fun w s => ⟨rfl, s⟩
def idI (l : List Int) (x : Int) : Nat := bsF (fun h => decide (l.getD h 0 < x)) l.length 0 l.length
def idB (l : List Int) (x : Int) : Bool := decide (idI l x < l.length) && decide (l.getD (idI l x) 0 = x)
theorem idI_le (l : List Int) (x : Int) : idI l x ≤ l.length := bsF_le _ _ _ _ (Nat.zero_le _)
def insId (l : List Int) (x : Int) : List Int := l.take (idI l x) ++ [x] ++ l.drop (idI l x)
theorem insId_len (l : List Int) (x : Int) : (insId l x).length = l.length + 1 := by
  have := idI_le l x
  simp [insId]; omega
theorem insId_map (l : List Int) (x : Int) : (l.map (Value.int .u64)).take (idI l x * 1) ++ [.int .u64 x] ++ (l.map (Value.int .u64)).drop (idI l x * 1) = (insId l x).map (Value.int .u64) := by
  simp [insId, List.map_take, List.map_drop]
theorem BSearch_ID_c {E w : World} {L : List Ch} {A : Option Addr} {c n : Nat} {l : List Int} {x : Int} (s : Sat E w L) (hr : Ent L (RdL A (l.map (.int .u64)))) (hn0 : l.length = n) (hn : l.length ≤ 4611686018427387904) :
    Calls Tryz.prog 179 #[.slice A n c, .int .u64 x] w (Gives E (.tuple #[.int .i64 (idI l x : Nat), .bool (idB l x)]) L) := by
  subst hn0
  refine enter (vs := [_, _]) Tryz.func179 rfl Tryz.ntmps179 rfl s ?_
  obtain ⟨lt, hlt⟩ : ∃ lt : Nat → Bool, lt = fun h => decide (l.getD h 0 < x) := ⟨_, rfl⟩
  have hbs : idI l x = bsF lt (l.length - 0) 0 l.length := by rw [idI, hlt, Nat.sub_zero]
  have hle := idI_le l x
  refine pk_seq ?_
  refine pk_region ?_
  refine pk_val rfl rfl rfl (val_assign rfl rfl) ?_
  refine pk_val rfl rfl rfl (val_assign rfl rfl) ?_
  refine pk_nil ?_
  refine thru_on ?_
  refine pk_seq ?_
  refine pk_region ?_
  refine pk_val rfl rfl rfl (val_move rfl rfl) ?_
  refine pk_val rfl rfl rfl (val_len_slice rfl Tryz.underlying54 rfl) ?_
  refine pk_val rfl rfl rfl (val_assign rfl rfl) ?_
  refine pk_nil ?_
  refine thru_on ?_
  refine pk_seq ?_
  refine pk_region ?_
  refine pk_val rfl rfl rfl (val_move rfl rfl) ?_
  refine pk_val rfl rfl rfl (val_assign rfl rfl) ?_
  refine pk_val rfl rfl rfl (val_assign rfl rfl) ?_
  refine pk_nil ?_
  refine thru_on ?_
  refine pk_seq ?_
  refine pk_block ?_
  refine pk_loop (α := Nat × Nat) ((0, l.length)) (fun y => [(0, .slice A l.length c), (1, .int .u64 x), (6, .int .i64 (l.length : Nat)), (7, .int .i64 (y.1 : Nat)), (8, .int .i64 (y.2 : Nat))]) (fun y => L) (fun y => y.1 ≤ y.2 ∧ y.2 ≤ l.length ∧ bsF lt (y.2 - y.1) y.1 y.2 = idI l x) (fun y => y.2 - y.1) ?_ ?_ ?_ ?_
  · (try dsimp only) <;> exact ⟨Nat.zero_le _, Nat.le_refl _, hbs.symm⟩
  · exact ⟨(Sub.cons rfl (by first | rfl | (congr 1; omega) | simp) (Sub.cons rfl (by first | rfl | (congr 1; omega) | simp) (Sub.cons rfl (by first | rfl | (congr 1; omega) | simp) (Sub.cons rfl (by first | rfl | (congr 1; omega) | simp) (Sub.cons rfl (by first | rfl | (congr 1; omega) | simp) (Sub.nil _)))))), rfl⟩
  · exact (fun _ h => h)
  rintro ⟨i, j⟩ ⟨h1, h2, hI⟩
  dsimp only at h1 h2 hI ⊢
  refine pk_seq ?_
  refine pk_seq ?_
  refine pk_region ?_
  refine pk_val rfl rfl rfl (val_move rfl rfl) ?_
  refine pk_val rfl rfl rfl (val_move rfl rfl) ?_
  refine pk_val rfl rfl rfl (val_lss rfl rfl rfl) ?_
  refine pk_nil ?_
  refine thru_on ?_
  refine pk_if rfl (fun h3 => ?_) (fun h3 => ?_)
  · skip
    refine pk_skip ?_
    refine thru_on ?_
    refine pk_block ?_
    have hij : i < j := by omega
    have hh : (i + j) / 2 < l.length := by omega
    rw [bsF_step lt hij] at hI
    refine Pk.tells (hr.some_of (by rw [List.length_map]; omega)) fun hA => ?_
    refine pk_seq ?_
    refine pk_region ?_
    refine pk_val rfl rfl rfl (val_move rfl rfl) ?_
    refine pk_val rfl rfl rfl (val_move rfl rfl) ?_
    refine pk_val rfl rfl rfl (val_add rfl rfl rfl (by omega)) ?_
    refine pk_val rfl rfl rfl (val_conv_fit rfl Tryz.underlying3 Tryz.underlying135 rfl (by simp [IntKind.wrap, IntKind.bits, IntKind.signed]; omega)) ?_
    refine pk_val rfl rfl rfl (val_shr1 rfl rfl rfl) ?_
    refine pk_val rfl rfl rfl (val_conv_fit rfl Tryz.underlying135 Tryz.underlying3 rfl (by simp [IntKind.wrap, IntKind.bits, IntKind.signed]; omega)) ?_
    refine pk_val rfl rfl rfl (val_assign rfl rfl) ?_
    refine pk_nil ?_
    refine thru_on ?_
    refine pk_seq ?_
    refine pk_region ?_
    refine pk_val rfl rfl rfl (val_move rfl rfl) ?_
    refine pk_val rfl rfl rfl (val_move rfl rfl) ?_
    refine pk_val rfl rfl rfl (val_indexAddr rfl Tryz.underlying54 1 (by kernel_rfl) rfl rfl ((i + j) / 2) (by omega) hh (Ent.pure hA)) ?_
    refine pk_val rfl rfl rfl (val_load rfl Tryz.underlying23 rfl rfl (hr.rd (get_map 0 hh))) ?_
    refine pk_val rfl rfl rfl (val_move rfl rfl) ?_
    refine pk_eff (eff_call1 rfl ⟨_, Tryz.func212, by kernel_rfl, rfl⟩ rfl (fun E w s => cmp_Less_ID_c s)) rfl rfl rfl (fun _ _ => ?_)
    refine pk_nil ?_
    refine thru_on ?_
    refine pk_if rfl (fun h4 => ?_) (fun h4 => ?_)
    · skip
      have hx : lt ((i + j) / 2) = true := by rw [hlt]; exact decide_eq_true h4
      rw [if_pos hx] at hI
      refine pk_region ?_
      refine pk_val rfl rfl rfl (val_move rfl rfl) ?_
      refine pk_val rfl rfl rfl (val_add rfl rfl rfl (by omega)) ?_
      refine pk_val rfl rfl rfl (val_assign rfl rfl) ?_
      refine pk_nil ?_
      refine in_on ?_
      refine thru_on ?_
      refine pk_next (x := ⟨i, j⟩) (((i + j) / 2 + 1, j)) ?_ ?_ ?_ ?_
      · (try dsimp only) <;> exact ⟨by omega, h2, hI⟩
      · (try dsimp only); exact ((by omega))
      · exact ⟨(Sub.cons rfl (by first | rfl | (congr 1; omega) | simp) (Sub.cons rfl (by first | rfl | (congr 1; omega) | simp) (Sub.cons rfl (by first | rfl | (congr 1; omega) | simp) (Sub.cons rfl (by first | rfl | (congr 1; omega) | simp) (Sub.cons rfl (by first | rfl | (congr 1; omega) | simp) (Sub.nil _)))))), rfl⟩
      · exact (fun _ h => h)
    · skip
      have hx : ¬ lt ((i + j) / 2) = true := by rw [hlt]; simpa using h4
      rw [if_neg hx] at hI
      refine pk_region ?_
      refine pk_val rfl rfl rfl (val_move rfl rfl) ?_
      refine pk_val rfl rfl rfl (val_assign rfl rfl) ?_
      refine pk_nil ?_
      refine in_on ?_
      refine thru_on ?_
      refine pk_next (x := ⟨i, j⟩) ((i, (i + j) / 2)) ?_ ?_ ?_ ?_
      · (try dsimp only) <;> exact ⟨by omega, by omega, hI⟩
      · (try dsimp only); exact ((by omega))
      · exact ⟨(Sub.cons rfl (by first | rfl | (congr 1; omega) | simp) (Sub.cons rfl (by first | rfl | (congr 1; omega) | simp) (Sub.cons rfl (by first | rfl | (congr 1; omega) | simp) (Sub.cons rfl (by first | rfl | (congr 1; omega) | simp) (Sub.cons rfl (by first | rfl | (congr 1; omega) | simp) (Sub.nil _)))))), rfl⟩
      · exact (fun _ h => h)
  · skip
    rw [bsF_done lt (by omega)] at hI
    rw [← hI]
    refine pk_exit ?_
    refine thru ?_
    refine thru ?_
    refine pk_here ?_
    refine thru_on ?_
    refine pk_seq ?_
    refine pk_region ?_
    refine pk_val rfl rfl rfl (val_move rfl rfl) ?_
    refine pk_val rfl rfl rfl (val_move rfl rfl) ?_
    refine pk_val rfl rfl rfl (val_move rfl rfl) ?_
    refine pk_val rfl rfl rfl (val_lss rfl rfl rfl) ?_
    by_cases hlt2 : i < l.length
    · skip
      refine Pk.slot 34 (v := .bool true) rfl (congrArg Value.bool (decide_eq_true (by omega))) ?_
      refine Pk.tells (hr.some_of (by rw [List.length_map]; omega)) fun hA => ?_
      refine pk_val rfl rfl rfl (val_move rfl rfl) ?_
      refine pk_guard_yes rfl rfl rfl ?_
      refine pk_val rfl rfl rfl (val_move rfl rfl) ?_
      refine pk_guard_yes rfl rfl rfl ?_
      refine pk_val rfl rfl rfl (val_move rfl rfl) ?_
      refine pk_guard_yes rfl rfl rfl ?_
      refine pk_val rfl rfl rfl (val_indexAddr rfl Tryz.underlying54 1 (by kernel_rfl) rfl rfl i rfl hlt2 (Ent.pure hA)) ?_
      refine pk_guard_yes rfl rfl rfl ?_
      refine pk_val rfl rfl rfl (val_load rfl Tryz.underlying23 rfl rfl (hr.rd (get_map 0 hlt2))) ?_
      refine pk_guard_yes rfl rfl rfl ?_
      refine pk_val rfl rfl rfl (val_move rfl rfl) ?_
      refine pk_guard_yes rfl rfl rfl ?_
      refine pk_val rfl rfl rfl (val_eql rfl rfl rfl) ?_
      by_cases heq : l.getD i 0 = x
      · skip
        refine Pk.slot 41 (v := .bool true) rfl (congrArg Value.bool (decide_eq_true heq)) ?_
        refine pk_guard_yes rfl rfl rfl ?_
        refine pk_val rfl rfl rfl (val_move rfl rfl) ?_
        refine pk_guard_no rfl rfl rfl rfl rfl rfl ?_
        refine pk_guard_no rfl rfl rfl rfl rfl rfl ?_
        refine pk_guard_no rfl rfl rfl rfl rfl rfl ?_
        refine pk_guard_no rfl rfl rfl rfl rfl rfl ?_
        refine pk_guard_no rfl rfl rfl rfl rfl rfl ?_
        refine pk_guard_no rfl rfl rfl rfl rfl rfl ?_
        refine pk_guard_un rfl rfl rfl rfl rfl ?_
        refine pk_guard_un rfl rfl rfl rfl rfl ?_
        refine pk_guard_no rfl rfl rfl rfl rfl rfl ?_
        refine pk_guard_yes rfl rfl rfl ?_
        refine pk_val rfl rfl rfl (val_pick rfl rfl rfl rfl) ?_
        refine pk_val rfl rfl rfl (val_pick rfl rfl rfl rfl) ?_
        refine pk_val rfl rfl rfl (val_assign rfl rfl) ?_
        refine pk_val rfl rfl rfl (val_assign rfl rfl) ?_
        refine pk_nil ?_
        refine thru_on ?_
        refine pk_ret ?_
        refine ret2 rfl rfl rfl fun w s => ⟨?_, s⟩
        have e : idB l x = true := by rw [idB, ← hI, decide_eq_true hlt2, Bool.true_and, decide_eq_true heq]
        rw [e]; rfl
      · skip
        refine Pk.slot 41 (v := .bool false) rfl (congrArg Value.bool (decide_eq_false heq)) ?_
        refine pk_guard_yes rfl rfl rfl ?_
        refine pk_val rfl rfl rfl (val_move rfl rfl) ?_
        refine pk_guard_yes rfl rfl rfl ?_
        refine pk_val rfl rfl rfl (val_move rfl rfl) ?_
        refine pk_guard_yes rfl rfl rfl ?_
        refine pk_val rfl rfl rfl (val_move rfl rfl) ?_
        refine pk_guard_yes rfl rfl rfl ?_
        refine pk_val rfl rfl rfl (val_indexAddr rfl Tryz.underlying54 1 (by kernel_rfl) rfl rfl i rfl hlt2 (Ent.pure hA)) ?_
        refine pk_guard_yes rfl rfl rfl ?_
        refine pk_val rfl rfl rfl (val_load rfl Tryz.underlying23 rfl rfl (hr.rd (get_map 0 hlt2))) ?_
        refine pk_guard_yes rfl rfl rfl ?_
        refine pk_eff (eff_call1 rfl ⟨_, Tryz.func232, by kernel_rfl, rfl⟩ rfl (fun E w s => slices_isNaN_ID_c s)) rfl rfl rfl (fun _ _ => ?_)
        refine pk_guard_yes rfl rfl rfl ?_
        refine pk_val rfl rfl rfl (val_move rfl rfl) ?_
        refine pk_guard_no rfl rfl rfl rfl rfl rfl ?_
        refine pk_guard_no rfl rfl rfl rfl rfl rfl ?_
        refine pk_guard_yes rfl rfl rfl ?_
        refine pk_val rfl rfl rfl (val_pick rfl rfl rfl rfl) ?_
        refine pk_guard_yes rfl rfl rfl ?_
        refine pk_val rfl rfl rfl (val_pick rfl rfl rfl rfl) ?_
        refine pk_val rfl rfl rfl (val_pick rfl rfl rfl rfl) ?_
        refine pk_val rfl rfl rfl (val_assign rfl rfl) ?_
        refine pk_val rfl rfl rfl (val_assign rfl rfl) ?_
        refine pk_nil ?_
        refine thru_on ?_
        refine pk_ret ?_
        refine ret2 rfl rfl rfl fun w s => ⟨?_, s⟩
        have e : idB l x = false := by rw [idB, ← hI, decide_eq_true hlt2, Bool.true_and, decide_eq_false heq]
        rw [e]; rfl
    · skip
      refine Pk.slot 34 (v := .bool false) rfl (congrArg Value.bool (decide_eq_false (by omega))) ?_
      refine pk_val rfl rfl rfl (val_move rfl rfl) ?_
      refine pk_guard_no rfl rfl rfl rfl rfl rfl ?_
      refine pk_guard_no rfl rfl rfl rfl rfl rfl ?_
      refine pk_guard_no rfl rfl rfl rfl rfl rfl ?_
      refine pk_guard_no rfl rfl rfl rfl rfl rfl ?_
      refine pk_guard_no rfl rfl rfl rfl rfl rfl ?_
      refine pk_guard_no rfl rfl rfl rfl rfl rfl ?_
      refine pk_guard_no rfl rfl rfl rfl rfl rfl ?_
      refine pk_guard_un rfl rfl rfl rfl rfl ?_
      refine pk_guard_un rfl rfl rfl rfl rfl ?_
      refine pk_guard_un rfl rfl rfl rfl rfl ?_
      refine pk_guard_un rfl rfl rfl rfl rfl ?_
      refine pk_guard_un rfl rfl rfl rfl rfl ?_
      refine pk_guard_un rfl rfl rfl rfl rfl ?_
      refine pk_guard_un rfl rfl rfl rfl rfl ?_
      refine pk_guard_un rfl rfl rfl rfl rfl ?_
      refine pk_guard_un rfl rfl rfl rfl rfl ?_
      refine pk_guard_no rfl rfl rfl rfl rfl rfl ?_
      refine pk_val rfl rfl rfl (val_pick rfl rfl rfl rfl) ?_
      refine pk_val rfl rfl rfl (val_assign rfl rfl) ?_
      refine pk_val rfl rfl rfl (val_assign rfl rfl) ?_
      refine pk_nil ?_
      refine thru_on ?_
      refine pk_ret ?_
      refine ret2 rfl rfl rfl fun w s => ⟨?_, s⟩
      have e : idB l x = false := by rw [idB, ← hI, decide_eq_false hlt2, Bool.false_and]
      rw [e]; rfl
theorem Insert_ID_c {E w : World} {L : List Ch} {q B : Option Addr} {n c cv i : Nat} {xs u : List Value} (s : Sat E w (own q n c 23 1 xs :: own B 1 cv 23 1 u :: L)) (hxl : xs.length = n * 1) (hul : u.length = 1 * 1) (hx1 : xs.all (·.oneCell') = true) (hu1 : u.all (·.oneCell') = true) (hi : i ≤ n) (hfit : (n + 1 + (n + 1) / 4 + 192) * 8 ≤ 281474976710656) :
    Calls Tryz.prog 180 #[.slice q n c, .int .i64 (i : Nat), .slice B 1 cv] w (GivesX E (fun p : Option Addr × Nat => .slice p.1 (n + 1) p.2) (fun p => own p.1 (n + 1) p.2 23 1 (xs.take (i * 1) ++ u ++ xs.drop (i * 1)) :: L) (fun _ => True)) := by
  refine enter (vs := [_, _, _]) Tryz.func180 rfl Tryz.ntmps180 rfl s ?_
  refine Pk.tells (Ent.cap 0 rfl) fun hnc => ?_
  have hfit' := hfit
  refine pk_seq ?_
  refine pk_region ?_
  refine pk_val rfl rfl rfl (val_assign rfl rfl) ?_
  refine pk_nil ?_
  refine thru_on ?_
  refine pk_seq ?_
  refine pk_region ?_
  refine pk_val rfl rfl rfl (val_move rfl rfl) ?_
  refine pk_val rfl rfl rfl (val_move rfl rfl) ?_
  refine pk_val rfl rfl rfl (val_slice_l rfl Tryz.underlying54 1 (by kernel_rfl) rfl rfl i rfl hi) ?_
  refine pk_nil ?_
  refine thru_on ?_
  refine pk_seq ?_
  refine pk_region ?_
  refine pk_val rfl rfl rfl (val_move rfl rfl) ?_
  refine pk_val rfl rfl rfl (val_len_slice rfl Tryz.underlying54 rfl) ?_
  refine pk_val rfl rfl rfl (val_assign rfl rfl) ?_
  refine pk_nil ?_
  refine thru_on ?_
  refine pk_seq ?_
  refine pk_seq ?_
  refine pk_region ?_
  refine pk_val rfl rfl rfl (val_move rfl rfl) ?_
  refine pk_val rfl rfl rfl (val_eql rfl rfl rfl) ?_
  refine pk_nil ?_
  refine thru_on ?_
  refine pk_cond_f rfl ?_
  refine pk_skip ?_
  refine thru_on ?_
  refine pk_seq ?_
  refine pk_region ?_
  refine pk_val rfl rfl rfl (val_move rfl rfl) ?_
  refine pk_val rfl rfl rfl (val_len_slice rfl Tryz.underlying54 rfl) ?_
  refine pk_val rfl rfl rfl (val_assign rfl rfl) ?_
  refine pk_nil ?_
  refine thru_on ?_
  refine pk_seq ?_
  refine pk_seq ?_
  refine pk_region ?_
  refine pk_val rfl rfl rfl (val_move rfl rfl) ?_
  refine pk_val rfl rfl rfl (val_move rfl rfl) ?_
  refine pk_val rfl rfl rfl (val_eql rfl rfl rfl) ?_
  refine pk_nil ?_
  refine thru_on ?_
  refine pk_if rfl (fun h1 => ?_) (fun h1 => ?_)
  · skip
    refine pk_seq ?_
    refine pk_region ?_
    refine pk_val rfl rfl rfl (val_move rfl rfl) ?_
    refine pk_val rfl rfl rfl (val_move rfl rfl) ?_
    refine pk_eff (eff_append1 (sz := 1) (bytes := 8) (z := .int .u64 0) 0 rfl Tryz.underlying54 (by kernel_rfl) rfl (by decide) (by decide) rfl rfl rfl (Ent.own 1 rfl) hxl hul hu1 hfit) rfl rfl rfl (fun q25 _ => ?_)
    refine pk_val rfl rfl rfl (val_assign rfl rfl) ?_
    refine pk_nil ?_
    refine thru_on ?_
    refine pk_ret ?_
    refine thru_ret ?_
    have hin : i = n := by omega
    refine ret1 rfl rfl fun w s => ⟨q25, trivial, rfl, s.to fun _ h => ?_⟩
    rw [List.take_of_length_le (by omega), List.drop_eq_nil_of_le (by omega), List.append_nil]
    exact (Sats.keep [true, false] h)
  · skip
    refine pk_skip ?_
    refine thru_on ?_
    have hin : i < n := by omega
    refine pk_seq ?_
    refine pk_seq ?_
    refine pk_region ?_
    refine pk_val rfl rfl rfl (val_move rfl rfl) ?_
    refine pk_val rfl rfl rfl (val_move rfl rfl) ?_
    refine pk_val rfl rfl rfl (val_add rfl rfl rfl (by omega)) ?_
    refine pk_val rfl rfl rfl (val_move rfl rfl) ?_
    refine pk_val rfl rfl rfl (val_cap_slice rfl Tryz.underlying54 rfl) ?_
    refine pk_val rfl rfl rfl (val_gtr rfl rfl rfl) ?_
    refine pk_nil ?_
    refine thru_on ?_
    refine pk_if rfl (fun h2 => ?_) (fun h2 => ?_)
    · skip
      refine pk_seq ?_
      refine pk_region ?_
      refine pk_val rfl rfl rfl (val_move rfl rfl) ?_
      refine pk_val rfl rfl rfl (val_move rfl rfl) ?_
      refine pk_val rfl rfl rfl (val_slice_h rfl Tryz.underlying54 (by kernel_rfl) rfl rfl i rfl (by omega)) ?_
      refine pk_val rfl rfl rfl (val_move rfl rfl) ?_
      refine pk_val rfl rfl rfl (val_move rfl rfl) ?_
      refine pk_val rfl rfl rfl (val_add rfl rfl rfl (by omega)) ?_
      refine pk_val rfl rfl rfl (val_move rfl rfl) ?_
      refine pk_val rfl rfl rfl (val_sub rfl rfl rfl (by omega)) ?_
      refine pk_eff (eff_appendZ (sz := 1) (bytes := 8) (z := .int .u64 0) (k := n + 1 - i) 0 rfl Tryz.underlying54 Tryz.underlying3 (by kernel_rfl) rfl (by decide) (by decide) rfl rfl (by omega) rfl (by omega) (by omega) (by omega) (by rw [show i + (n + 1 - i) = n + 1 by omega]; exact hfit)) rfl rfl rfl (fun z40 hz40 => ?_)
      refine Pk.slot 40 (v := .slice (some ⟨z40.1, 0, none⟩) (n + 1) z40.2.1) rfl (by congr 1; omega) ?_
      refine Pk.tells (Ent.cap 0 rfl) fun hzc => ?_
      refine pk_val rfl rfl rfl (val_assign rfl rfl) ?_
      refine pk_nil ?_
      refine thru_on ?_
      refine pk_seq ?_
      refine pk_region ?_
      refine pk_val rfl rfl rfl (val_move rfl rfl) ?_
      refine pk_val rfl rfl rfl (val_move rfl rfl) ?_
      refine pk_val rfl rfl rfl (val_slice_l rfl Tryz.underlying54 1 (by kernel_rfl) rfl rfl i rfl (by omega)) ?_
      refine pk_val rfl rfl rfl (val_move rfl rfl) ?_
      refine pk_eff (eff_copy (k := i) 0 rfl Tryz.underlying54 (by kernel_rfl) (by decide) rfl rfl rfl (.inr (subA_of (by omega))) (Ent.own 2 rfl) (by omega) hu1 (by rw [List.length_append, List.length_take, hz40]; omega)) rfl rfl rfl (fun _ _ => ?_)
      refine pk_nil ?_
      refine thru_on ?_
      refine pk_seq ?_
      refine pk_drawk (.val 0 (.val 1 (.val 2 (.val 3 (.val 4 (.val 5 (.val 6 (.val 7 (.eff 8 .nil))))))))) 1009 [false, true, true] rfl (by kernel_rfl) (fun _ _ _ _ _ h => h) ?_
      refine ord_val rfl rfl rfl rfl (fun _ h => (Sats.keep [false, true, true] h :)) (val_move rfl rfl) ?_
      refine ord_val rfl rfl rfl rfl (fun _ h => (Sats.keep [false, true, true] h :)) (val_move rfl rfl) ?_
      refine ord_val rfl rfl rfl rfl (fun _ h => (Sats.keep [false, true, true] h :)) (val_move rfl rfl) ?_
      refine ord_val rfl rfl rfl rfl (fun _ h => (Sats.keep [false, true, true] h :)) (val_add rfl rfl rfl (by omega)) ?_
      refine ord_val rfl rfl rfl rfl (fun _ h => (Sats.keep [false, true, true] h :)) (val_slice_l rfl Tryz.underlying54 1 (by kernel_rfl) rfl rfl (i + 1) rfl (by omega)) ?_
      refine ord_val rfl rfl rfl rfl (fun _ h => (Sats.keep [false, true, true] h :)) (val_move rfl rfl) ?_
      refine ord_val rfl rfl rfl rfl (fun _ h => (Sats.keep [false, true, true] h :)) (val_move rfl rfl) ?_
      refine ord_val rfl rfl rfl rfl (fun _ h => (Sats.keep [false, true, true] h :)) (val_slice_l rfl Tryz.underlying54 1 (by kernel_rfl) rfl rfl i rfl (by omega)) ?_
      refine ord_eff (eff_copy (k := i + 1) (m' := n - i) (dl := n + 1 - (i + 1)) (ys := xs.drop (i * 1)) 0 rfl Tryz.underlying54 (by kernel_rfl) (by decide) rfl rfl rfl (.inr (subA_of (by omega))) (Ent.drop (Ent.own 1 rfl) (by omega)) (by rw [List.length_drop]; omega) (drop_one hx1) (by rw [splice_length (by rw [List.length_append, List.length_take, List.length_take, hz40]; omega), List.length_append, List.length_take, hz40]; omega)) rfl rfl rfl rfl (.inr fun _ _ => (fun _ h => (Sats.keep [false, true, true] h :))) (fun _ _ => ?_)
      refine ord_nil ?_
      refine thru_on ?_
      refine pk_seq ?_
      refine pk_region ?_
      refine pk_val rfl rfl rfl (val_move rfl rfl) ?_
      refine pk_val rfl rfl rfl (val_assign rfl rfl) ?_
      refine pk_nil ?_
      refine thru_on ?_
      refine pk_ret ?_
      refine thru_ret ?_
      refine ret1 rfl rfl fun w s => ⟨(some ⟨z40.1, 0, none⟩, z40.2.1), trivial, rfl, s.to fun _ h => ?_⟩
      have h1 := (Sats.keep [true, false, false] h)
      rw [show min 1 (n + 1 - i) = 1 by omega, show min (n - i) (n + 1 - (i + 1)) = n - i by omega, List.take_of_length_le (show u.length ≤ 1 * 1 by omega), List.take_of_length_le (show (xs.drop (i * 1)).length ≤ (n - i) * 1 by rw [List.length_drop]; omega), show (i + 1) * 1 = i * 1 + 1 by omega, insert_grow (by omega) (by omega) (by omega), show i + (n + 1 - i) = n + 1 by omega] at h1
      exact h1
    · skip
      refine pk_skip ?_
      refine thru_on ?_
      refine pk_seq ?_
      refine pk_region ?_
      refine pk_val rfl rfl rfl (val_move rfl rfl) ?_
      refine pk_val rfl rfl rfl (val_move rfl rfl) ?_
      refine pk_val rfl rfl rfl (val_move rfl rfl) ?_
      refine pk_val rfl rfl rfl (val_add rfl rfl rfl (by omega)) ?_
      refine pk_val rfl rfl rfl (val_slice_h rfl Tryz.underlying54 (by kernel_rfl) rfl rfl (n + 1) rfl (by omega)) ?_
      refine pk_val rfl rfl rfl (val_assign rfl rfl) ?_
      refine pk_nil ?_
      refine thru_on ?_
      refine pk_seq ?_
      refine pk_seq ?_
      refine pk_region ?_
      refine pk_val rfl rfl rfl (val_move rfl rfl) ?_
      refine pk_val rfl rfl rfl (val_move rfl rfl) ?_
      refine pk_val rfl rfl rfl (val_move rfl rfl) ?_
      refine pk_val rfl rfl rfl (val_move rfl rfl) ?_
      refine pk_val rfl rfl rfl (val_add rfl rfl rfl (by omega)) ?_
      refine pk_val rfl rfl rfl (val_slice_l rfl Tryz.underlying54 1 (by kernel_rfl) rfl rfl (i + 1) rfl (by omega)) ?_
      refine pk_eff (eff_overlaps (t := 54) (tr := 4) 1 0 1 rfl Tryz.func233 (by kernel_rfl) (by kernel_rfl) (by kernel_rfl) (by kernel_rfl) Tryz.underlying54 (by kernel_rfl) rfl rfl rfl rfl (by decide) (subA_of (by omega)) (by omega) (by omega)) rfl rfl rfl (fun _ _ => ?_)
      refine pk_val rfl rfl rfl (val_not rfl rfl) ?_
      refine pk_nil ?_
      refine thru_on ?_
      refine pk_cond_t rfl ?_
      refine Pk.pull 0 rfl ?_
      refine Pk.spare fun ys hys => ?_
      have hyl : 1 ≤ ys.length := by rw [List.length_append] at hys; omega
      refine pk_seq ?_
      refine pk_drawk (.val 0 (.val 1 (.val 2 (.val 3 (.val 4 (.val 5 (.val 6 (.val 7 (.eff 8 .nil))))))))) 1009 [false, true] rfl (by kernel_rfl) (fun _ _ _ _ _ h => h) ?_
      refine ord_val rfl rfl rfl rfl (fun _ h => (Sats.keep [false, true] h :)) (val_move rfl rfl) ?_
      refine ord_val rfl rfl rfl rfl (fun _ h => (Sats.keep [false, true] h :)) (val_move rfl rfl) ?_
      refine ord_val rfl rfl rfl rfl (fun _ h => (Sats.keep [false, true] h :)) (val_move rfl rfl) ?_
      refine ord_val rfl rfl rfl rfl (fun _ h => (Sats.keep [false, true] h :)) (val_add rfl rfl rfl (by omega)) ?_
      refine ord_val rfl rfl rfl rfl (fun _ h => (Sats.keep [false, true] h :)) (val_slice_l rfl Tryz.underlying54 1 (by kernel_rfl) rfl rfl (i + 1) rfl (by omega)) ?_
      refine ord_val rfl rfl rfl rfl (fun _ h => (Sats.keep [false, true] h :)) (val_move rfl rfl) ?_
      refine ord_val rfl rfl rfl rfl (fun _ h => (Sats.keep [false, true] h :)) (val_move rfl rfl) ?_
      refine ord_val rfl rfl rfl rfl (fun _ h => (Sats.keep [false, true] h :)) (val_slice_l rfl Tryz.underlying54 1 (by kernel_rfl) rfl rfl i rfl (by omega)) ?_
      refine ord_eff (eff_copy (k := i + 1) (m' := n + 1 - i) (dl := n + 1 - (i + 1)) (ys := xs.drop (i * 1)) 0 rfl Tryz.underlying54 (by kernel_rfl) (by decide) rfl rfl rfl (.inr (subA_of (by omega))) (Ent.drop (Ent.left (Ent.own 0 rfl)) (by omega)) (by rw [List.length_drop]; omega) (drop_one hx1) (by rw [List.length_append]; omega)) rfl rfl rfl rfl (.inr fun _ _ => (fun _ h => (Sats.keep [false, true] h :))) (fun _ _ => ?_)
      refine ord_nil ?_
      refine thru_on ?_
      refine pk_seq ?_
      refine pk_region ?_
      refine pk_val rfl rfl rfl (val_move rfl rfl) ?_
      refine pk_val rfl rfl rfl (val_move rfl rfl) ?_
      refine pk_val rfl rfl rfl (val_slice_l rfl Tryz.underlying54 1 (by kernel_rfl) rfl rfl i rfl (by omega)) ?_
      refine pk_val rfl rfl rfl (val_move rfl rfl) ?_
      refine pk_eff (eff_copy (k := i) 0 rfl Tryz.underlying54 (by kernel_rfl) (by decide) rfl rfl rfl (.inr (subA_of (by omega))) (Ent.own 1 rfl) (by omega) hu1 (by rw [splice_length (by rw [List.length_append, List.length_take, List.length_drop]; omega), List.length_append]; omega)) rfl rfl rfl (fun _ _ => ?_)
      refine pk_nil ?_
      refine thru_on ?_
      refine pk_seq ?_
      refine pk_region ?_
      refine pk_val rfl rfl rfl (val_move rfl rfl) ?_
      refine pk_val rfl rfl rfl (val_assign rfl rfl) ?_
      refine pk_nil ?_
      refine thru_on ?_
      refine pk_ret ?_
      refine thru_ret ?_
      refine ret1 rfl rfl fun w s => ⟨(q, c), trivial, rfl, s.to fun _ h => ?_⟩
      have h1 := (Sats.keep [true, false] h)
      rw [show min (n + 1 - i) (n + 1 - (i + 1)) = n - i by omega, show min 1 (n + 1 - i) = 1 by omega, List.take_of_length_le (show u.length ≤ 1 * 1 by omega), List.take_of_length_le (show (xs.drop (i * 1)).length ≤ (n - i) * 1 by rw [List.length_drop]; omega), show (i + 1) * 1 = i * 1 + 1 by omega, insert_room (by omega) (by omega) hyl] at h1
      exact Sats.head (fun _ o => own_pre o (by simp only [List.length_append, List.length_take, List.length_drop]; omega) (by omega)) h1
/-- the keys of a write -/
def risK (l : List ByteArray) : Bool := l.all (fun s => decide (s.size ≤ 65535)) && riseB l && decide (1 ≤ l.length) && decide (l.length ≤ 1024)
theorem risK_iff (l : List ByteArray) : risK l = true ↔ (∀ s ∈ l, s.size ≤ 65535) ∧ Rise l l.length ∧ 1 ≤ l.length ∧ l.length ≤ 1024 := by
  simp only [risK, Bool.and_eq_true, List.all_eq_true, decide_eq_true_eq, riseB_iff]
  constructor
  · rintro ⟨⟨⟨h1, h2⟩, h3⟩, h4⟩; exact ⟨h1, h2, h3, h4⟩
  · rintro ⟨h1, h2, h3, h4⟩; exact ⟨⟨⟨h1, h2⟩, h3⟩, h4⟩
theorem risK_no {l : List ByteArray} (h : ¬ ((∀ s ∈ l, s.size ≤ 65535) ∧ Rise l l.length ∧ 1 ≤ l.length ∧ l.length ≤ 1024)) : risK l = false := by
  cases e : risK l with
  | false => rfl
  | true => exact absurd ((risK_iff l).1 e) h
theorem store_rising_c {E w : World} {L : List Ch} {A : Option Addr} {c : Nat} {l : List ByteArray} (s : Sat E w L) (hr : Ent L (RdL A (l.map .string))) (hl : l.length ≤ 4611686018427387904) :
    Calls Tryz.prog 177 #[.slice A l.length c] w (Gives E (.bool (risK l)) L) := by
  refine enter (vs := [_]) Tryz.func177 rfl Tryz.ntmps177 rfl s ?_
  refine pk_seq ?_
  refine pk_region ?_
  refine pk_val rfl rfl rfl (val_assign rfl rfl) ?_
  refine pk_nil ?_
  refine thru_on ?_
  refine pk_seq ?_
  refine pk_seq ?_
  refine pk_region ?_
  refine pk_val rfl rfl rfl (val_move rfl rfl) ?_
  refine pk_val rfl rfl rfl (val_len_slice rfl Tryz.underlying24 rfl) ?_
  refine pk_val rfl rfl rfl (val_move rfl rfl) ?_
  refine pk_nil ?_
  refine thru_on ?_
  refine pk_block ?_
  refine pk_loop (α := Nat) (0) (fun k => [(0, .slice A l.length c), (5, .slice A l.length c), (6, .int .i64 (l.length : Nat)), (7, .int .i64 (k : Nat))]) (fun k => L) (fun k => k ≤ l.length ∧ Rise l k ∧ ∀ j, j < k → (l.getD j emp).size ≤ 65535) (fun k => l.length - k) ?_ ?_ ?_ ?_
  · (try dsimp only) <;> exact ⟨Nat.zero_le _, fun j h => by omega, fun j h => by omega⟩
  · exact ⟨(Sub.cons rfl (by first | rfl | (congr 1; omega) | simp) (Sub.cons rfl (by first | rfl | (congr 1; omega) | simp) (Sub.cons rfl (by first | rfl | (congr 1; omega) | simp) (Sub.cons rfl (by first | rfl | (congr 1; omega) | simp) (Sub.nil _))))), rfl⟩
  · exact (fun _ h => h)
  rintro k ⟨hk0, hR, hS⟩
  refine pk_seq ?_
  refine pk_region ?_
  refine pk_val rfl rfl rfl (val_lss rfl rfl rfl) ?_
  refine pk_nil ?_
  refine thru_on ?_
  refine pk_seq ?_
  refine pk_if rfl (fun h => ?_) (fun h => ?_)
  · skip
    refine pk_skip ?_
    refine thru_on ?_
    have hk : k < l.length := by omega
    refine Pk.tells (hr.some_of (by rw [List.length_map]; omega)) fun hA => ?_
    refine pk_seq ?_
    refine pk_block ?_
    refine pk_seq ?_
    refine pk_region ?_
    refine pk_val rfl rfl rfl (val_move rfl rfl) ?_
    refine pk_val rfl rfl rfl (val_indexAddr rfl Tryz.underlying24 1 (by kernel_rfl) rfl rfl k rfl hk (Ent.pure hA)) ?_
    refine pk_val rfl rfl rfl (val_load rfl Tryz.underlying9 rfl rfl (hr.rd (get_map emp hk))) ?_
    refine pk_val rfl rfl rfl (val_assign rfl rfl) ?_
    refine pk_val rfl rfl rfl (val_assign rfl rfl) ?_
    refine pk_nil ?_
    refine thru_on ?_
    refine pk_seq ?_
    refine pk_region ?_
    refine pk_val rfl rfl rfl (val_move rfl rfl) ?_
    refine pk_val rfl rfl rfl (val_len_string rfl Tryz.underlying9 rfl) ?_
    refine pk_val rfl rfl rfl (val_gtr rfl rfl rfl) ?_
    by_cases hs : (l.getD k emp).size ≤ 65535
    · skip
      refine Pk.slot 14 (v := .bool false) rfl (congrArg Value.bool (decide_eq_false (by omega))) ?_
      refine pk_val rfl rfl rfl (val_move rfl rfl) ?_
      refine pk_guard_yes rfl rfl rfl ?_
      refine pk_val rfl rfl rfl (val_move rfl rfl) ?_
      refine pk_guard_yes rfl rfl rfl ?_
      refine pk_val rfl rfl rfl (val_gtr rfl rfl rfl) ?_
      by_cases h0 : 0 < k
      · skip
        refine Pk.slot 17 (v := .bool true) rfl (congrArg Value.bool (decide_eq_true (by omega))) ?_
        refine pk_guard_yes rfl rfl rfl ?_
        refine pk_val rfl rfl rfl (val_move rfl rfl) ?_
        refine pk_guard_yes rfl rfl rfl ?_
        refine pk_val rfl rfl rfl (val_move rfl rfl) ?_
        refine pk_guard_yes rfl rfl rfl ?_
        refine pk_val rfl rfl rfl (val_move rfl rfl) ?_
        refine pk_guard_yes rfl rfl rfl ?_
        refine pk_val rfl rfl rfl (val_move rfl rfl) ?_
        refine pk_guard_yes rfl rfl rfl ?_
        refine pk_val rfl rfl rfl (val_sub rfl rfl rfl (by omega)) ?_
        refine pk_guard_yes rfl rfl rfl ?_
        refine pk_val rfl rfl rfl (val_indexAddr rfl Tryz.underlying24 1 (by kernel_rfl) rfl rfl (k - 1) (by omega) (by omega) (Ent.pure hA)) ?_
        refine pk_guard_yes rfl rfl rfl ?_
        refine pk_val rfl rfl rfl (val_load rfl Tryz.underlying9 rfl rfl (hr.rd (get_map emp (by omega)))) ?_
        refine pk_guard_yes rfl rfl rfl ?_
        refine pk_val rfl rfl rfl (val_str_leq rfl rfl rfl) ?_
        refine pk_guard_yes rfl rfl rfl ?_
        refine pk_val rfl rfl rfl (val_pick rfl rfl rfl rfl) ?_
        refine pk_val rfl rfl rfl (val_pick rfl rfl rfl rfl) ?_
        refine pk_nil ?_
        refine thru_on ?_
        refine pk_ifb rfl (fun h2 => ?_) (fun h2 => ?_)
        · skip
          refine pk_seq ?_
          refine pk_region ?_
          refine pk_val rfl rfl rfl (val_assign rfl rfl) ?_
          refine pk_nil ?_
          refine thru_on ?_
          refine pk_ret ?_
          refine in_ret ?_
          refine thru_ret ?_
          refine thru_ret ?_
          refine in_ret ?_
          refine thru_ret ?_
          have eno : risK l = false := risK_no fun hn => by
            have := hn.2.1 (k - 1) (by omega)
            rw [show k - 1 + 1 = k by omega] at this
            have h3 := (not_leq _ _).2 this
            rw [h2] at h3; cases h3
          refine ret1 rfl rfl fun w s => ⟨?_, s⟩
          rw [eno]
          first | done | rfl
        · skip
          refine pk_skip ?_
          refine in_on ?_
          refine thru_on ?_
          refine pk_region ?_
          refine pk_val rfl rfl rfl (val_add rfl rfl rfl (by omega)) ?_
          refine pk_val rfl rfl rfl (val_move rfl rfl) ?_
          refine pk_nil ?_
          refine thru_on ?_
          refine pk_next (x := k) (k + 1) ?_ ?_ ?_ ?_
          · (try dsimp only) <;> exact ⟨hk, fun j hj => by
            by_cases e : j + 1 = k
            · have := (not_leq _ _).1 h2
              rw [← e] at this
              exact this
            · exact hR j (by omega), fun j hj => by
            by_cases e : j = k
            · subst e; exact hs
            · exact hS j (by omega)⟩
          · (try dsimp only); exact (by omega)
          · exact ⟨(Sub.cons rfl (by first | rfl | (congr 1; omega) | simp) (Sub.cons rfl (by first | rfl | (congr 1; omega) | simp) (Sub.cons rfl (by first | rfl | (congr 1; omega) | simp) (Sub.cons rfl (by first | rfl | (congr 1; omega) | simp) (Sub.nil _))))), rfl⟩
          · exact (fun _ h => h)
      · skip
        refine Pk.slot 17 (v := .bool false) rfl (congrArg Value.bool (decide_eq_false (by omega))) ?_
        refine pk_guard_yes rfl rfl rfl ?_
        refine pk_val rfl rfl rfl (val_move rfl rfl) ?_
        refine pk_guard_no rfl rfl rfl rfl rfl rfl ?_
        refine pk_guard_no rfl rfl rfl rfl rfl rfl ?_
        refine pk_guard_no rfl rfl rfl rfl rfl rfl ?_
        refine pk_guard_no rfl rfl rfl rfl rfl rfl ?_
        refine pk_guard_no rfl rfl rfl rfl rfl rfl ?_
        refine pk_guard_no rfl rfl rfl rfl rfl rfl ?_
        refine pk_guard_no rfl rfl rfl rfl rfl rfl ?_
        refine pk_guard_yes rfl rfl rfl ?_
        refine pk_val rfl rfl rfl (val_pick rfl rfl rfl rfl) ?_
        refine pk_val rfl rfl rfl (val_pick rfl rfl rfl rfl) ?_
        refine pk_nil ?_
        refine thru_on ?_
        refine pk_cond_f rfl ?_
        refine pk_skip ?_
        refine in_on ?_
        refine thru_on ?_
        refine pk_region ?_
        refine pk_val rfl rfl rfl (val_add rfl rfl rfl (by omega)) ?_
        refine pk_val rfl rfl rfl (val_move rfl rfl) ?_
        refine pk_nil ?_
        refine thru_on ?_
        refine pk_next (x := k) (k + 1) ?_ ?_ ?_ ?_
        · (try dsimp only) <;> exact ⟨hk, fun j hj => by omega, fun j hj => by
          by_cases e : j = k
          · subst e; exact hs
          · exact hS j (by omega)⟩
        · (try dsimp only); exact (by omega)
        · exact ⟨(Sub.cons rfl (by first | rfl | (congr 1; omega) | simp) (Sub.cons rfl (by first | rfl | (congr 1; omega) | simp) (Sub.cons rfl (by first | rfl | (congr 1; omega) | simp) (Sub.cons rfl (by first | rfl | (congr 1; omega) | simp) (Sub.nil _))))), rfl⟩
        · exact (fun _ h => h)
    · skip
      refine Pk.slot 14 (v := .bool true) rfl (congrArg Value.bool (decide_eq_true (by omega))) ?_
      refine pk_val rfl rfl rfl (val_move rfl rfl) ?_
      refine pk_guard_no rfl rfl rfl rfl rfl rfl ?_
      refine pk_guard_no rfl rfl rfl rfl rfl rfl ?_
      refine pk_guard_no rfl rfl rfl rfl rfl rfl ?_
      refine pk_guard_un rfl rfl rfl rfl rfl ?_
      refine pk_guard_un rfl rfl rfl rfl rfl ?_
      refine pk_guard_un rfl rfl rfl rfl rfl ?_
      refine pk_guard_un rfl rfl rfl rfl rfl ?_
      refine pk_guard_un rfl rfl rfl rfl rfl ?_
      refine pk_guard_un rfl rfl rfl rfl rfl ?_
      refine pk_guard_un rfl rfl rfl rfl rfl ?_
      refine pk_guard_no rfl rfl rfl rfl rfl rfl ?_
      refine pk_val rfl rfl rfl (val_pick rfl rfl rfl rfl) ?_
      refine pk_nil ?_
      refine thru_on ?_
      refine pk_cond_t rfl ?_
      refine pk_seq ?_
      refine pk_region ?_
      refine pk_val rfl rfl rfl (val_assign rfl rfl) ?_
      refine pk_nil ?_
      refine thru_on ?_
      refine pk_ret ?_
      refine in_ret ?_
      refine thru_ret ?_
      refine thru_ret ?_
      refine in_ret ?_
      refine thru_ret ?_
      have eno : risK l = false := risK_no fun hn => by
        exact hs (hn.1 _ (getD_mem emp hk))
      refine ret1 rfl rfl fun w s => ⟨?_, s⟩
      rw [eno]
      first | done | rfl
  · skip
    have hkk : k = l.length := by omega
    subst hkk
    have hall : ∀ s ∈ l, s.size ≤ 65535 := fun s hs => by
      obtain ⟨j, hj, e⟩ := getD_of_mem hs
      rw [← e]; exact hS j hj
    refine pk_exit ?_
    refine thru ?_
    refine thru ?_
    refine pk_here ?_
    refine thru_on ?_
    refine pk_seq ?_
    refine pk_region ?_
    refine pk_val rfl rfl rfl (val_move rfl rfl) ?_
    refine pk_val rfl rfl rfl (val_len_slice rfl Tryz.underlying24 rfl) ?_
    refine pk_val rfl rfl rfl (val_geq rfl rfl rfl) ?_
    by_cases h1 : 1 ≤ l.length
    · skip
      refine Pk.slot 31 (v := .bool true) rfl (congrArg Value.bool (decide_eq_true (by omega))) ?_
      refine pk_val rfl rfl rfl (val_move rfl rfl) ?_
      refine pk_guard_yes rfl rfl rfl ?_
      refine pk_val rfl rfl rfl (val_move rfl rfl) ?_
      refine pk_guard_yes rfl rfl rfl ?_
      refine pk_val rfl rfl rfl (val_len_slice rfl Tryz.underlying24 rfl) ?_
      refine pk_guard_yes rfl rfl rfl ?_
      refine pk_val rfl rfl rfl (val_leq rfl rfl rfl) ?_
      refine pk_val rfl rfl rfl (val_pick rfl rfl rfl rfl) ?_
      refine pk_val rfl rfl rfl (val_assign rfl rfl) ?_
      refine pk_nil ?_
      refine thru_on ?_
      refine pk_ret ?_
      refine ret1 rfl rfl fun w s => ⟨?_, s⟩
      have e : risK l = decide ((l.length : Int) ≤ 1024) := by
        have e1 : riseB l = true := (riseB_iff l).2 hR
        have e2 : l.all (fun s => decide (s.size ≤ 65535)) = true := List.all_eq_true.2 fun s hs => decide_eq_true (hall s hs)
        rw [risK, e1, e2, decide_eq_true h1, Bool.true_and, Bool.true_and, Bool.true_and]
        exact decide_eq_decide.2 (by omega)
      rw [e]; rfl
    · skip
      refine Pk.slot 31 (v := .bool false) rfl (congrArg Value.bool (decide_eq_false (by omega))) ?_
      refine pk_val rfl rfl rfl (val_move rfl rfl) ?_
      refine pk_guard_no rfl rfl rfl rfl rfl rfl ?_
      refine pk_guard_no rfl rfl rfl rfl rfl rfl ?_
      refine pk_guard_no rfl rfl rfl rfl rfl rfl ?_
      refine pk_val rfl rfl rfl (val_pick rfl rfl rfl rfl) ?_
      refine pk_val rfl rfl rfl (val_assign rfl rfl) ?_
      refine pk_nil ?_
      refine thru_on ?_
      refine pk_ret ?_
      have eno : risK l = false := risK_no fun hn => by
        exact h1 hn.2.2.1
      refine ret1 rfl rfl fun w s => ⟨?_, s⟩
      rw [eno]
      first | done | rfl
theorem store_has_c {E w : World} {L : List Ch} {A : Option Addr} {c : Nat} {l : List ByteArray} {x : ByteArray} (s : Sat E w L) (hr : Ent L (RdL A (l.map .string))) (hl : l.length ≤ 2305843009213693952) (hR : Rise l l.length) :
    Calls Tryz.prog 178 #[.slice A l.length c, .string x] w (Gives E (.bool (memB l x)) L) := by
  refine enter (vs := [_, _]) Tryz.func178 rfl Tryz.ntmps178 rfl s ?_
  refine pk_seq ?_
  refine pk_region ?_
  refine pk_val rfl rfl rfl (val_assign rfl rfl) ?_
  refine pk_nil ?_
  refine thru_on ?_
  refine pk_seq ?_
  refine pk_region ?_
  refine pk_val rfl rfl rfl (val_move rfl rfl) ?_
  refine pk_val rfl rfl rfl (val_move rfl rfl) ?_
  refine pk_eff (eff_callx rfl ⟨_, Tryz.func231, by kernel_rfl, rfl⟩ rfl (fun E w s => BinarySearch_string_c s hr hl hR)) rfl rfl rfl (fun i10 hi10 => ?_)
  refine pk_val rfl rfl rfl (val_move rfl rfl) ?_
  refine pk_val rfl rfl rfl (val_extract rfl rfl rfl) ?_
  refine pk_val rfl rfl rfl (val_extract rfl rfl rfl) ?_
  refine pk_val rfl rfl rfl (val_assign rfl rfl) ?_
  refine pk_val rfl rfl rfl (val_assign rfl rfl) ?_
  refine pk_nil ?_
  refine thru_on ?_
  refine pk_seq ?_
  refine pk_region ?_
  refine pk_val rfl rfl rfl (val_move rfl rfl) ?_
  refine pk_val rfl rfl rfl (val_assign rfl rfl) ?_
  refine pk_nil ?_
  refine thru_on ?_
  refine pk_ret ?_
  refine ret1 rfl rfl fun w s => ⟨rfl, s⟩
def tickB (z : Int) : Bool := decide (0 ≤ z) && decide (z ≤ 1099511627776)
theorem store_tick_c {E w : World} {L : List Ch} {z : Int} (s : Sat E w L) : Calls Tryz.prog 107 #[.int .i64 z] w (Gives E (.bool (tickB z)) L) := by
  refine enter (vs := [_]) Tryz.func107 rfl Tryz.ntmps107 rfl s ?_
  refine pk_seq ?_
  refine pk_region ?_
  refine pk_val rfl rfl rfl (val_assign rfl rfl) ?_
  refine pk_nil ?_
  refine thru_on ?_
  refine pk_seq ?_
  refine pk_region ?_
  refine pk_val rfl rfl rfl (val_move rfl rfl) ?_
  refine pk_val rfl rfl rfl (val_geq rfl rfl rfl) ?_
  by_cases h : 0 ≤ z
  · skip
    refine Pk.slot 4 (v := .bool true) rfl (congrArg Value.bool (decide_eq_true h)) ?_
    refine pk_val rfl rfl rfl (val_move rfl rfl) ?_
    refine pk_guard_yes rfl rfl rfl ?_
    refine pk_val rfl rfl rfl (val_move rfl rfl) ?_
    refine pk_guard_yes rfl rfl rfl ?_
    refine pk_val rfl rfl rfl (val_leq rfl rfl rfl) ?_
    refine pk_val rfl rfl rfl (val_pick rfl rfl rfl rfl) ?_
    refine pk_val rfl rfl rfl (val_assign rfl rfl) ?_
    refine pk_nil ?_
    refine thru_on ?_
    refine pk_ret ?_
    refine ret1 rfl rfl fun w s => ⟨?_, s⟩
    rw [tickB, decide_eq_true h, Bool.true_and]; rfl
  · skip
    refine Pk.slot 4 (v := .bool false) rfl (congrArg Value.bool (decide_eq_false h)) ?_
    refine pk_val rfl rfl rfl (val_move rfl rfl) ?_
    refine pk_guard_no rfl rfl rfl rfl rfl rfl ?_
    refine pk_guard_no rfl rfl rfl rfl rfl rfl ?_
    refine pk_val rfl rfl rfl (val_pick rfl rfl rfl rfl) ?_
    refine pk_val rfl rfl rfl (val_assign rfl rfl) ?_
    refine pk_nil ?_
    refine thru_on ?_
    refine pk_ret ?_
    refine ret1 rfl rfl fun w s => ⟨?_, s⟩
    rw [tickB, decide_eq_false h, Bool.false_and]; rfl
/-- what a write may say -/
def mayS (id : Int) (ps : List Pr) (ks : List ByteArray) : Bool := decide (65536 ≤ id) && risK ks && decide (1 ≤ ps.length) && riseB (ps.map (·.1)) && ps.all (fun p => memB ks p.1 && decide (p.2.size ≤ 65535))
structure MayS (id : Int) (ps : List Pr) (ks : List ByteArray) : Prop where
  id : 65536 ≤ id
  keys : risK ks = true
  pos : 1 ≤ ps.length
  rise : Rise (ps.map (·.1)) ps.length
  each : ∀ p ∈ ps, memB ks p.1 = true ∧ p.2.size ≤ 65535
theorem mayS_iff (id : Int) (ps : List Pr) (ks : List ByteArray) : mayS id ps ks = true ↔ MayS id ps ks := by
  simp only [mayS, Bool.and_eq_true, List.all_eq_true, decide_eq_true_eq, riseB_iff, List.length_map]
  constructor
  · rintro ⟨⟨⟨⟨h1, h2⟩, h3⟩, h4⟩, h5⟩; exact ⟨h1, h2, h3, h4, h5⟩
  · rintro ⟨h1, h2, h3, h4, h5⟩; exact ⟨⟨⟨⟨h1, h2⟩, h3⟩, h4⟩, h5⟩
theorem mayS_no {id : Int} {ps : List Pr} {ks : List ByteArray} (h : ¬ MayS id ps ks) : mayS id ps ks = false := by
  cases e : mayS id ps ks with
  | false => rfl
  | true => exact absurd ((mayS_iff id ps ks).1 e) h
theorem store_may_c {E w : World} {L : List Ch} {A B : Option Addr} {c d : Nat} {id : Int} {ps : List Pr} {ks : List ByteArray} (s : Sat E w L) (hp : Ent L (RdL A (ps.flatMap pC2))) (hr : Ent L (RdL B (ks.map .string))) (hl : ks.length ≤ 2305843009213693952) (hpl : ps.length ≤ 2305843009213693952) :
    Calls Tryz.prog 106 #[.int .u64 id, .slice A ps.length c, .slice B ks.length d] w (Gives E (.bool (mayS id ps ks)) L) := by
  refine enter (vs := [_, _, _]) Tryz.func106 rfl Tryz.ntmps106 rfl s ?_
  refine pk_seq ?_
  refine pk_region ?_
  refine pk_val rfl rfl rfl (val_assign rfl rfl) ?_
  refine pk_nil ?_
  refine thru_on ?_
  refine pk_seq ?_
  refine pk_seq ?_
  refine pk_region ?_
  refine pk_val rfl rfl rfl (val_move rfl rfl) ?_
  refine pk_val rfl rfl rfl (val_lss rfl rfl rfl) ?_
  by_cases hid : 65536 ≤ id
  · skip
    refine Pk.slot 10 (v := .bool false) rfl (congrArg Value.bool (decide_eq_false (by omega))) ?_
    refine pk_val rfl rfl rfl (val_move rfl rfl) ?_
    refine pk_guard_yes rfl rfl rfl ?_
    refine pk_val rfl rfl rfl (val_move rfl rfl) ?_
    refine pk_guard_yes rfl rfl rfl ?_
    refine pk_eff (eff_call1 rfl ⟨_, Tryz.func177, by kernel_rfl, rfl⟩ rfl (fun E w s => store_rising_c s hr (by omega))) rfl rfl rfl (fun _ _ => ?_)
    refine pk_guard_yes rfl rfl rfl ?_
    refine pk_val rfl rfl rfl (val_not rfl rfl) ?_
    refine pk_val rfl rfl rfl (val_pick rfl rfl rfl rfl) ?_
    by_cases hris : risK ks = true
    · skip
      refine Pk.slot 15 (v := .bool false) rfl (by rw [hris] <;> rfl) ?_
      refine pk_val rfl rfl rfl (val_move rfl rfl) ?_
      refine pk_guard_yes rfl rfl rfl ?_
      refine pk_val rfl rfl rfl (val_move rfl rfl) ?_
      refine pk_guard_yes rfl rfl rfl ?_
      refine pk_val rfl rfl rfl (val_len_slice rfl Tryz.underlying98 rfl) ?_
      refine pk_guard_yes rfl rfl rfl ?_
      refine pk_val rfl rfl rfl (val_lss rfl rfl rfl) ?_
      refine pk_val rfl rfl rfl (val_pick rfl rfl rfl rfl) ?_
      refine pk_nil ?_
      refine thru_on ?_
      refine pk_ifb rfl (fun h0 => ?_) (fun h0 => ?_)
      · skip
        refine pk_seq ?_
        refine pk_region ?_
        refine pk_val rfl rfl rfl (val_assign rfl rfl) ?_
        refine pk_nil ?_
        refine thru_on ?_
        refine pk_ret ?_
        refine thru_ret ?_
        have eno : mayS id ps ks = false := mayS_no fun hn => by
          rw [decide_eq_false (show ¬ ((ps.length : Int) < 1) by have := hn.pos; omega)] at h0; cases h0
        refine ret1 rfl rfl fun w s => ⟨?_, s.to (fun _ h => h)⟩
        rw [eno]
        first | done | rfl
      · skip
        refine pk_skip ?_
        refine thru_on ?_
        have hpos : 1 ≤ ps.length := by have := of_decide_eq_false h0; omega
        have hks := (risK_iff ks).1 hris
        refine pk_seq ?_
        refine pk_seq ?_
        refine pk_region ?_
        refine pk_val rfl rfl rfl (val_move rfl rfl) ?_
        refine pk_val rfl rfl rfl (val_len_slice rfl Tryz.underlying98 rfl) ?_
        refine pk_val rfl rfl rfl (val_move rfl rfl) ?_
        refine pk_nil ?_
        refine thru_on ?_
        refine pk_block ?_
        refine pk_loop (α := Nat) (0) (fun k => [(0, .int .u64 id), (1, .slice A ps.length c), (2, .slice B ks.length d), (21, .slice A ps.length c), (22, .int .i64 (ps.length : Nat)), (23, .int .i64 (k : Nat))]) (fun k => L) (fun k => k ≤ ps.length ∧ Rise (ps.map (·.1)) k ∧ ∀ j, j < k → memB ks (ps.getD j dPr).1 = true ∧ (ps.getD j dPr).2.size ≤ 65535) (fun k => ps.length - k) ?_ ?_ ?_ ?_
        · (try dsimp only) <;> exact ⟨Nat.zero_le _, fun j h => by omega, fun j h => by omega⟩
        · exact ⟨(Sub.cons rfl (by first | rfl | (congr 1; omega) | simp) (Sub.cons rfl (by first | rfl | (congr 1; omega) | simp) (Sub.cons rfl (by first | rfl | (congr 1; omega) | simp) (Sub.cons rfl (by first | rfl | (congr 1; omega) | simp) (Sub.cons rfl (by first | rfl | (congr 1; omega) | simp) (Sub.cons rfl (by first | rfl | (congr 1; omega) | simp) (Sub.nil _))))))), rfl⟩
        · exact (fun _ h => h)
        rintro k ⟨hk0, hR, hE⟩
        refine pk_seq ?_
        refine pk_region ?_
        refine pk_val rfl rfl rfl (val_lss rfl rfl rfl) ?_
        refine pk_nil ?_
        refine thru_on ?_
        refine pk_seq ?_
        refine pk_if rfl (fun h => ?_) (fun h => ?_)
        · skip
          refine pk_skip ?_
          refine thru_on ?_
          have hk : k < ps.length := by omega
          refine Pk.tells (hp.some_of (by rw [flat_length pC2_len]; omega)) fun hA => ?_
          refine pk_seq ?_
          refine pk_block ?_
          refine pk_seq ?_
          refine pk_region ?_
          refine pk_val rfl rfl rfl (val_move rfl rfl) ?_
          refine pk_val rfl rfl rfl (val_indexAddr rfl Tryz.underlying98 2 (by kernel_rfl) rfl rfl k rfl hk (Ent.pure hA)) ?_
          refine pk_val rfl rfl rfl (val_loads (vs := pC2 (ps.getD k dPr)) rfl Tryz.underlying97 rfl (by kernel_rfl) rfl (Ent.pure hA) (hp.rds (flat_rds pC2_len dPr hk))) ?_
          refine pk_eff (eff_alloc (z := [.string ⟨#[]⟩, .string ⟨#[]⟩]) rfl (by kernel_rfl)) rfl rfl rfl (fun b8 _ => ?_)
          refine pk_val rfl rfl rfl (val_assign rfl rfl) ?_
          refine pk_eff0 (eff_storeW 0 rfl rfl rfl rfl rfl (by kernel_rfl) rfl rfl rfl) rfl rfl (fun _ _ => ?_)
          refine pk_nil ?_
          refine thru_on ?_
          refine pk_seq ?_
          refine pk_drawk (.val 0 (.val 1 (.val 2 (.val 3 (.val 4 (.val 5 (.val 6 (.val 7 (.val 8 (.val 9 (.val 10 (.val 11 (.val 12 (.val 13 (.val 14 (.val 15 (.val 16 (.eff 17 (.val 18 (.val 19 (.val 20 (.val 21 (.val 22 (.val 23 (.val 24 (.val 25 .nil)))))))))))))))))))))))))) 1026 [] rfl (by kernel_rfl) (fun _ _ _ _ _ h => h) ?_
          refine ord_val rfl rfl rfl rfl (fun _ h => h) (val_move rfl rfl) ?_
          refine ord_val rfl rfl rfl rfl (fun _ h => h) (val_gtr rfl rfl rfl) ?_
          by_cases hk1 : 0 < k
          · skip
            refine Pk.slot 29 (v := .bool true) rfl (congrArg Value.bool (decide_eq_true (by omega))) ?_
            refine ord_val rfl rfl rfl rfl (fun _ h => h) (val_move rfl rfl) ?_
            refine ord_val_yes rfl rfl rfl rfl rfl rfl (fun _ h => h) (val_fieldAddr rfl Tryz.underlying97 0 1 (by kernel_rfl) (by decide) rfl (Ent.pure rfl)) ?_
            refine ord_val_yes rfl rfl rfl rfl rfl rfl (fun _ h => h) (val_load (v := .string (ps.getD k dPr).1) rfl Tryz.underlying9 rfl rfl ((Ent.own 0 rfl).rd rfl)) ?_
            refine ord_val_yes rfl rfl rfl rfl rfl rfl (fun _ h => h) (val_move rfl rfl) ?_
            refine ord_val_yes rfl rfl rfl rfl rfl rfl (fun _ h => h) (val_move rfl rfl) ?_
            refine ord_val_yes rfl rfl rfl rfl rfl rfl (fun _ h => h) (val_sub rfl rfl rfl (by omega)) ?_
            refine ord_val_yes rfl rfl rfl rfl rfl rfl (fun _ h => h) (val_indexAddr rfl Tryz.underlying98 2 (by kernel_rfl) rfl rfl (k - 1) (by omega) (by omega) (Ent.pure hA)) ?_
            refine ord_val_yes rfl rfl rfl rfl rfl rfl (fun _ h => h) (val_fieldAddr rfl Tryz.underlying97 0 1 (by kernel_rfl) (by decide) rfl (Ent.pure (by first | rfl | assumption))) ?_
            refine ord_val_yes rfl rfl rfl rfl rfl rfl (fun _ h => h) (val_load (v := .string (ps.getD (k - 1) dPr).1) rfl Tryz.underlying9 rfl rfl (hp.cons.rd ((get_flat (k := k - 1) pC2_len dPr (by omega) (by decide)).trans rfl))) ?_
            refine ord_val_yes rfl rfl rfl rfl rfl rfl (fun _ h => h) (val_str_leq rfl rfl rfl) ?_
            refine ord_val rfl rfl rfl rfl (fun _ h => h) (val_pick rfl rfl rfl rfl) ?_
            obtain ⟨b39, hb39⟩ : ∃ b, b = (slt (ps.getD k dPr).1 (ps.getD (k - 1) dPr).1 || decide ((ps.getD k dPr).1 = (ps.getD (k - 1) dPr).1)) := ⟨_, rfl⟩
            cases b39
            · skip
              have hlt : 0 < k → slt (ps.getD (k - 1) dPr).1 (ps.getD k dPr).1 = true := fun _ => (not_leq _ _).1 hb39.symm
              refine Pk.slot 40 (v := .bool false) rfl (congrArg Value.bool hb39.symm) ?_
              refine ord_val rfl rfl rfl rfl (fun _ h => h) (val_move rfl rfl) ?_
              refine ord_val_yes rfl rfl rfl rfl rfl rfl (fun _ h => h) (val_move rfl rfl) ?_
              refine ord_val_yes rfl rfl rfl rfl rfl rfl (fun _ h => h) (val_fieldAddr rfl Tryz.underlying97 0 1 (by kernel_rfl) (by decide) rfl (Ent.pure rfl)) ?_
              refine ord_val_yes rfl rfl rfl rfl rfl rfl (fun _ h => h) (val_load (v := .string (ps.getD k dPr).1) rfl Tryz.underlying9 rfl rfl ((Ent.own 0 rfl).rd rfl)) ?_
              refine ord_eff_yes (eff_call1 rfl ⟨_, Tryz.func178, by kernel_rfl, rfl⟩ rfl (fun E w s => store_has_c s hr.cons hl hks.2.1)) rfl rfl rfl rfl rfl rfl (.inr fun _ _ => (fun _ h => h)) (fun _ _ => ?_)
              refine ord_val_yes rfl rfl rfl rfl rfl rfl (fun _ h => h) (val_not rfl rfl) ?_
              refine ord_val rfl rfl rfl rfl (fun _ h => h) (val_pick rfl rfl rfl rfl) ?_
              by_cases hm : memB ks (ps.getD k dPr).1 = true
              · skip
                refine Pk.slot 47 (v := .bool false) rfl (by rw [hm] <;> rfl) ?_
                refine ord_val rfl rfl rfl rfl (fun _ h => h) (val_move rfl rfl) ?_
                refine ord_val_yes rfl rfl rfl rfl rfl rfl (fun _ h => h) (val_fieldAddr rfl Tryz.underlying97 1 1 (by kernel_rfl) (by decide) rfl (Ent.pure rfl)) ?_
                refine ord_val_yes rfl rfl rfl rfl rfl rfl (fun _ h => h) (val_load (v := .string (ps.getD k dPr).2) rfl Tryz.underlying9 rfl rfl ((Ent.own 0 rfl).rd rfl)) ?_
                refine ord_val_yes rfl rfl rfl rfl rfl rfl (fun _ h => h) (val_len_string rfl Tryz.underlying9 rfl) ?_
                refine ord_val_yes rfl rfl rfl rfl rfl rfl (fun _ h => h) (val_gtr rfl rfl rfl) ?_
                refine ord_val rfl rfl rfl rfl (fun _ h => h) (val_pick rfl rfl rfl rfl) ?_
                refine ord_nil ?_
                refine thru_on ?_
                refine pk_ifb rfl (fun h2 => ?_) (fun h2 => ?_)
                · skip
                  refine pk_seq ?_
                  refine pk_region ?_
                  refine pk_val rfl rfl rfl (val_assign rfl rfl) ?_
                  refine pk_nil ?_
                  refine thru_on ?_
                  refine pk_ret ?_
                  refine in_ret ?_
                  refine thru_ret ?_
                  refine thru_ret ?_
                  refine in_ret ?_
                  refine thru_ret ?_
                  have eno : mayS id ps ks = false := mayS_no fun hn => by
                    have := (hn.each _ (getD_mem dPr hk)).2
                    rw [decide_eq_false (show ¬ ((65535 : Int) < ((ps.getD k dPr).2.size : Nat)) by omega)] at h2; cases h2
                  refine ret1 rfl rfl fun w s => ⟨?_, s.to (fun _ h => Sats.keep [false] h)⟩
                  rw [eno]
                  first | done | rfl
                · skip
                  refine pk_skip ?_
                  refine in_on ?_
                  refine thru_on ?_
                  have hv : (ps.getD k dPr).2.size ≤ 65535 := by have := of_decide_eq_false h2; omega
                  refine pk_region ?_
                  refine pk_val rfl rfl rfl (val_add rfl rfl rfl (by omega)) ?_
                  refine pk_val rfl rfl rfl (val_move rfl rfl) ?_
                  refine pk_nil ?_
                  refine thru_on ?_
                  refine pk_next (x := k) (k + 1) ?_ ?_ ?_ ?_
                  · (try dsimp only) <;> exact ⟨hk, fun j hj => by
                    by_cases e : j + 1 = k
                    · rw [map_getD (·.1) dPr (by omega), map_getD (·.1) dPr (by omega)]; subst e; exact hlt (by omega)
                    · exact hR j (by omega), fun j hj => by
                    by_cases e : j = k
                    · subst e; exact ⟨hm, hv⟩
                    · exact hE j (by omega)⟩
                  · (try dsimp only); exact (by omega)
                  · exact ⟨(Sub.cons rfl (by first | rfl | (congr 1; omega) | simp) (Sub.cons rfl (by first | rfl | (congr 1; omega) | simp) (Sub.cons rfl (by first | rfl | (congr 1; omega) | simp) (Sub.cons rfl (by first | rfl | (congr 1; omega) | simp) (Sub.cons rfl (by first | rfl | (congr 1; omega) | simp) (Sub.cons rfl (by first | rfl | (congr 1; omega) | simp) (Sub.nil _))))))), rfl⟩
                  · exact (fun _ h => Sats.keep [false] h)
              · skip
                refine Pk.slot 47 (v := .bool true) rfl (by rw [show memB ks (ps.getD k dPr).1 = false by simpa using hm] <;> rfl) ?_
                refine ord_val rfl rfl rfl rfl (fun _ h => h) (val_move rfl rfl) ?_
                refine ord_val_no rfl rfl rfl rfl rfl rfl rfl (fun _ h => h) ?_
                refine ord_val_no rfl rfl rfl rfl rfl rfl rfl (fun _ h => h) ?_
                refine ord_val_no rfl rfl rfl rfl rfl rfl rfl (fun _ h => h) ?_
                refine ord_val_no rfl rfl rfl rfl rfl rfl rfl (fun _ h => h) ?_
                refine ord_val rfl rfl rfl rfl (fun _ h => h) (val_pick rfl rfl rfl rfl) ?_
                refine ord_nil ?_
                refine thru_on ?_
                refine pk_cond_t rfl ?_
                refine pk_seq ?_
                refine pk_region ?_
                refine pk_val rfl rfl rfl (val_assign rfl rfl) ?_
                refine pk_nil ?_
                refine thru_on ?_
                refine pk_ret ?_
                refine in_ret ?_
                refine thru_ret ?_
                refine thru_ret ?_
                refine in_ret ?_
                refine thru_ret ?_
                have eno : mayS id ps ks = false := mayS_no fun hn => by
                  exact hm (hn.each _ (getD_mem dPr hk)).1
                refine ret1 rfl rfl fun w s => ⟨?_, s.to (fun _ h => Sats.keep [false] h)⟩
                rw [eno]
                first | done | rfl
            · skip
              refine Pk.slot 40 (v := .bool true) rfl (congrArg Value.bool hb39.symm) ?_
              refine ord_val rfl rfl rfl rfl (fun _ h => h) (val_move rfl rfl) ?_
              refine ord_val_no rfl rfl rfl rfl rfl rfl rfl (fun _ h => h) ?_
              refine ord_val_no rfl rfl rfl rfl rfl rfl rfl (fun _ h => h) ?_
              refine ord_val_no rfl rfl rfl rfl rfl rfl rfl (fun _ h => h) ?_
              refine ord_eff_no rfl rfl rfl rfl rfl rfl rfl (fun _ h => h) ?_
              refine ord_val_no rfl rfl rfl rfl rfl rfl rfl (fun _ h => h) ?_
              refine ord_val rfl rfl rfl rfl (fun _ h => h) (val_pick rfl rfl rfl rfl) ?_
              refine ord_val rfl rfl rfl rfl (fun _ h => h) (val_move rfl rfl) ?_
              refine ord_val_no rfl rfl rfl rfl rfl rfl rfl (fun _ h => h) ?_
              refine ord_val_no rfl rfl rfl rfl rfl rfl rfl (fun _ h => h) ?_
              refine ord_val_no rfl rfl rfl rfl rfl rfl rfl (fun _ h => h) ?_
              refine ord_val_no rfl rfl rfl rfl rfl rfl rfl (fun _ h => h) ?_
              refine ord_val rfl rfl rfl rfl (fun _ h => h) (val_pick rfl rfl rfl rfl) ?_
              refine ord_nil ?_
              refine thru_on ?_
              refine pk_cond_t rfl ?_
              refine pk_seq ?_
              refine pk_region ?_
              refine pk_val rfl rfl rfl (val_assign rfl rfl) ?_
              refine pk_nil ?_
              refine thru_on ?_
              refine pk_ret ?_
              refine in_ret ?_
              refine thru_ret ?_
              refine thru_ret ?_
              refine in_ret ?_
              refine thru_ret ?_
              have eno : mayS id ps ks = false := mayS_no fun hn => by
                have := hn.rise (k - 1) (by omega)
                rw [show k - 1 + 1 = k by omega, map_getD (·.1) dPr (by omega), map_getD (·.1) dPr (by omega)] at this
                have h3 := (not_leq _ _).2 this
                rw [← hb39] at h3; cases h3
              refine ret1 rfl rfl fun w s => ⟨?_, s.to (fun _ h => Sats.keep [false] h)⟩
              rw [eno]
              first | done | rfl
          · skip
            refine Pk.slot 29 (v := .bool false) rfl (congrArg Value.bool (decide_eq_false (by omega))) ?_
            have hlt : 0 < k → slt (ps.getD (k - 1) dPr).1 (ps.getD k dPr).1 = true := fun h => by omega
            refine ord_val rfl rfl rfl rfl (fun _ h => h) (val_move rfl rfl) ?_
            refine ord_val_no rfl rfl rfl rfl rfl rfl rfl (fun _ h => h) ?_
            refine ord_val_no rfl rfl rfl rfl rfl rfl rfl (fun _ h => h) ?_
            refine ord_val_no rfl rfl rfl rfl rfl rfl rfl (fun _ h => h) ?_
            refine ord_val_no rfl rfl rfl rfl rfl rfl rfl (fun _ h => h) ?_
            refine ord_val_no rfl rfl rfl rfl rfl rfl rfl (fun _ h => h) ?_
            refine ord_val_no rfl rfl rfl rfl rfl rfl rfl (fun _ h => h) ?_
            refine ord_val_no rfl rfl rfl rfl rfl rfl rfl (fun _ h => h) ?_
            refine ord_val_no rfl rfl rfl rfl rfl rfl rfl (fun _ h => h) ?_
            refine ord_val_no rfl rfl rfl rfl rfl rfl rfl (fun _ h => h) ?_
            refine ord_val rfl rfl rfl rfl (fun _ h => h) (val_pick rfl rfl rfl rfl) ?_
            refine ord_val rfl rfl rfl rfl (fun _ h => h) (val_move rfl rfl) ?_
            refine ord_val_yes rfl rfl rfl rfl rfl rfl (fun _ h => h) (val_move rfl rfl) ?_
            refine ord_val_yes rfl rfl rfl rfl rfl rfl (fun _ h => h) (val_fieldAddr rfl Tryz.underlying97 0 1 (by kernel_rfl) (by decide) rfl (Ent.pure rfl)) ?_
            refine ord_val_yes rfl rfl rfl rfl rfl rfl (fun _ h => h) (val_load (v := .string (ps.getD k dPr).1) rfl Tryz.underlying9 rfl rfl ((Ent.own 0 rfl).rd rfl)) ?_
            refine ord_eff_yes (eff_call1 rfl ⟨_, Tryz.func178, by kernel_rfl, rfl⟩ rfl (fun E w s => store_has_c s hr.cons hl hks.2.1)) rfl rfl rfl rfl rfl rfl (.inr fun _ _ => (fun _ h => h)) (fun _ _ => ?_)
            refine ord_val_yes rfl rfl rfl rfl rfl rfl (fun _ h => h) (val_not rfl rfl) ?_
            refine ord_val rfl rfl rfl rfl (fun _ h => h) (val_pick rfl rfl rfl rfl) ?_
            by_cases hm : memB ks (ps.getD k dPr).1 = true
            · skip
              refine Pk.slot 47 (v := .bool false) rfl (by rw [hm] <;> rfl) ?_
              refine ord_val rfl rfl rfl rfl (fun _ h => h) (val_move rfl rfl) ?_
              refine ord_val_yes rfl rfl rfl rfl rfl rfl (fun _ h => h) (val_fieldAddr rfl Tryz.underlying97 1 1 (by kernel_rfl) (by decide) rfl (Ent.pure rfl)) ?_
              refine ord_val_yes rfl rfl rfl rfl rfl rfl (fun _ h => h) (val_load (v := .string (ps.getD k dPr).2) rfl Tryz.underlying9 rfl rfl ((Ent.own 0 rfl).rd rfl)) ?_
              refine ord_val_yes rfl rfl rfl rfl rfl rfl (fun _ h => h) (val_len_string rfl Tryz.underlying9 rfl) ?_
              refine ord_val_yes rfl rfl rfl rfl rfl rfl (fun _ h => h) (val_gtr rfl rfl rfl) ?_
              refine ord_val rfl rfl rfl rfl (fun _ h => h) (val_pick rfl rfl rfl rfl) ?_
              refine ord_nil ?_
              refine thru_on ?_
              refine pk_ifb rfl (fun h2 => ?_) (fun h2 => ?_)
              · skip
                refine pk_seq ?_
                refine pk_region ?_
                refine pk_val rfl rfl rfl (val_assign rfl rfl) ?_
                refine pk_nil ?_
                refine thru_on ?_
                refine pk_ret ?_
                refine in_ret ?_
                refine thru_ret ?_
                refine thru_ret ?_
                refine in_ret ?_
                refine thru_ret ?_
                have eno : mayS id ps ks = false := mayS_no fun hn => by
                  have := (hn.each _ (getD_mem dPr hk)).2
                  rw [decide_eq_false (show ¬ ((65535 : Int) < ((ps.getD k dPr).2.size : Nat)) by omega)] at h2; cases h2
                refine ret1 rfl rfl fun w s => ⟨?_, s.to (fun _ h => Sats.keep [false] h)⟩
                rw [eno]
                first | done | rfl
              · skip
                refine pk_skip ?_
                refine in_on ?_
                refine thru_on ?_
                have hv : (ps.getD k dPr).2.size ≤ 65535 := by have := of_decide_eq_false h2; omega
                refine pk_region ?_
                refine pk_val rfl rfl rfl (val_add rfl rfl rfl (by omega)) ?_
                refine pk_val rfl rfl rfl (val_move rfl rfl) ?_
                refine pk_nil ?_
                refine thru_on ?_
                refine pk_next (x := k) (k + 1) ?_ ?_ ?_ ?_
                · (try dsimp only) <;> exact ⟨hk, fun j hj => by
                  by_cases e : j + 1 = k
                  · rw [map_getD (·.1) dPr (by omega), map_getD (·.1) dPr (by omega)]; subst e; exact hlt (by omega)
                  · exact hR j (by omega), fun j hj => by
                  by_cases e : j = k
                  · subst e; exact ⟨hm, hv⟩
                  · exact hE j (by omega)⟩
                · (try dsimp only); exact (by omega)
                · exact ⟨(Sub.cons rfl (by first | rfl | (congr 1; omega) | simp) (Sub.cons rfl (by first | rfl | (congr 1; omega) | simp) (Sub.cons rfl (by first | rfl | (congr 1; omega) | simp) (Sub.cons rfl (by first | rfl | (congr 1; omega) | simp) (Sub.cons rfl (by first | rfl | (congr 1; omega) | simp) (Sub.cons rfl (by first | rfl | (congr 1; omega) | simp) (Sub.nil _))))))), rfl⟩
                · exact (fun _ h => Sats.keep [false] h)
            · skip
              refine Pk.slot 47 (v := .bool true) rfl (by rw [show memB ks (ps.getD k dPr).1 = false by simpa using hm] <;> rfl) ?_
              refine ord_val rfl rfl rfl rfl (fun _ h => h) (val_move rfl rfl) ?_
              refine ord_val_no rfl rfl rfl rfl rfl rfl rfl (fun _ h => h) ?_
              refine ord_val_no rfl rfl rfl rfl rfl rfl rfl (fun _ h => h) ?_
              refine ord_val_no rfl rfl rfl rfl rfl rfl rfl (fun _ h => h) ?_
              refine ord_val_no rfl rfl rfl rfl rfl rfl rfl (fun _ h => h) ?_
              refine ord_val rfl rfl rfl rfl (fun _ h => h) (val_pick rfl rfl rfl rfl) ?_
              refine ord_nil ?_
              refine thru_on ?_
              refine pk_cond_t rfl ?_
              refine pk_seq ?_
              refine pk_region ?_
              refine pk_val rfl rfl rfl (val_assign rfl rfl) ?_
              refine pk_nil ?_
              refine thru_on ?_
              refine pk_ret ?_
              refine in_ret ?_
              refine thru_ret ?_
              refine thru_ret ?_
              refine in_ret ?_
              refine thru_ret ?_
              have eno : mayS id ps ks = false := mayS_no fun hn => by
                exact hm (hn.each _ (getD_mem dPr hk)).1
              refine ret1 rfl rfl fun w s => ⟨?_, s.to (fun _ h => Sats.keep [false] h)⟩
              rw [eno]
              first | done | rfl
        · skip
          refine pk_exit ?_
          refine thru ?_
          refine thru ?_
          refine pk_here ?_
          refine thru_on ?_
          refine pk_seq ?_
          refine pk_region ?_
          refine pk_val rfl rfl rfl (val_assign rfl rfl) ?_
          refine pk_nil ?_
          refine thru_on ?_
          refine pk_ret ?_
          have hkk : k = ps.length := by omega
          subst hkk
          refine ret1 rfl rfl fun w s => ⟨?_, s⟩
          have e : mayS id ps ks = true := (mayS_iff _ _ _).2 ⟨hid, hris, hpos, hR, fun p hp => by
            obtain ⟨j, hj, e⟩ := List.mem_iff_getElem.1 hp
            have := hE j hj
            simpa [hj, e] using this⟩
          rw [e]
    · skip
      refine Pk.slot 15 (v := .bool true) rfl (by rw [show risK ks = false by simpa using hris] <;> rfl) ?_
      refine pk_val rfl rfl rfl (val_move rfl rfl) ?_
      refine pk_guard_no rfl rfl rfl rfl rfl rfl ?_
      refine pk_guard_no rfl rfl rfl rfl rfl rfl ?_
      refine pk_guard_no rfl rfl rfl rfl rfl rfl ?_
      refine pk_val rfl rfl rfl (val_pick rfl rfl rfl rfl) ?_
      refine pk_nil ?_
      refine thru_on ?_
      refine pk_cond_t rfl ?_
      refine pk_seq ?_
      refine pk_region ?_
      refine pk_val rfl rfl rfl (val_assign rfl rfl) ?_
      refine pk_nil ?_
      refine thru_on ?_
      refine pk_ret ?_
      refine thru_ret ?_
      have eno : mayS id ps ks = false := mayS_no fun hn => by
        exact hris hn.keys
      refine ret1 rfl rfl fun w s => ⟨?_, s.to (fun _ h => h)⟩
      rw [eno]
      first | done | rfl
  · skip
    refine Pk.slot 10 (v := .bool true) rfl (congrArg Value.bool (decide_eq_true (by omega))) ?_
    refine pk_val rfl rfl rfl (val_move rfl rfl) ?_
    refine pk_guard_no rfl rfl rfl rfl rfl rfl ?_
    refine pk_guard_no rfl rfl rfl rfl rfl rfl ?_
    refine pk_guard_no rfl rfl rfl rfl rfl rfl ?_
    refine pk_val rfl rfl rfl (val_pick rfl rfl rfl rfl) ?_
    refine pk_val rfl rfl rfl (val_move rfl rfl) ?_
    refine pk_guard_no rfl rfl rfl rfl rfl rfl ?_
    refine pk_guard_no rfl rfl rfl rfl rfl rfl ?_
    refine pk_guard_no rfl rfl rfl rfl rfl rfl ?_
    refine pk_val rfl rfl rfl (val_pick rfl rfl rfl rfl) ?_
    refine pk_nil ?_
    refine thru_on ?_
    refine pk_cond_t rfl ?_
    refine pk_seq ?_
    refine pk_region ?_
    refine pk_val rfl rfl rfl (val_assign rfl rfl) ?_
    refine pk_nil ?_
    refine thru_on ?_
    refine pk_ret ?_
    refine thru_ret ?_
    have eno : mayS id ps ks = false := mayS_no fun hn => by
      exact hid hn.id
    refine ret1 rfl rfl fun w s => ⟨?_, s.to (fun _ h => h)⟩
    rw [eno]
    first | done | rfl
end Go.Proofs.YtdpckendkklfdaaGreat
