/- The walks of package fix and of the library's functions under it, first part. -/
import Derived.Test.YtdpckendkklfdaaGreatEngM
import Derived.Test.YtdpckendkklfdaaGreatProg
set_option linter.unusedVariables false
set_option linter.unusedSimpArgs false
set_option maxRecDepth 100000
namespace Go.Proofs.YtdpckendkklfdaaGreat
open Go.RowKit Go.Proofs.Eng
theorem fix_rising_c {E w : World} {L : List Ch} {A : Option Addr} {c : Nat} {l : List ByteArray} (s : Sat E w L) (hr : Ent L (RdL A (l.map .string))) (hl : l.length ≤ 4611686018427387904) :
    Calls Tryz.prog 229 #[.slice A l.length c] w (Gives E (.bool (riseB l && decide (l.length ≤ 1024))) L) := by
  refine enter (vs := [_]) Tryz.func229 rfl Tryz.ntmps229 rfl s ?_
  refine pk_seq ?_
  refine pk_region ?_
  refine pk_val rfl rfl rfl (val_assign rfl rfl) ?_
  refine pk_nil ?_
  refine thru_on ?_
  refine pk_seq ?_
  refine pk_seq ?_
  refine pk_region ?_
  refine pk_val rfl rfl rfl (val_assign rfl rfl) ?_
  refine pk_nil ?_
  refine thru_on ?_
  refine pk_block ?_
  refine pk_loop (α := Nat) (1) (fun k => [(3, .int .i64 k), (0, .slice A l.length c)]) (fun k => L) (fun k => 1 ≤ k ∧ Rise l k) (fun k => l.length - k) ?_ ?_ ?_ ?_
  · (try dsimp only) <;> exact ⟨Nat.le_refl _, fun j h => by omega⟩
  · exact ⟨(Sub.cons rfl (by first | rfl | (congr 1; omega) | simp) (Sub.cons rfl (by first | rfl | (congr 1; omega) | simp) (Sub.nil _))), rfl⟩
  · exact (fun _ h => h)
  rintro k ⟨hk1, hk⟩
  refine pk_seq ?_
  refine pk_seq ?_
  refine pk_region ?_
  refine pk_val rfl rfl rfl (val_move rfl rfl) ?_
  refine pk_val rfl rfl rfl (val_move rfl rfl) ?_
  refine pk_val rfl rfl rfl (val_len_slice rfl Tryz.underlying24 rfl) ?_
  refine pk_val rfl rfl rfl (val_lss rfl rfl rfl) ?_
  refine pk_nil ?_
  refine thru_on ?_
  refine pk_if rfl (fun h => ?_) (fun h => ?_)
  · skip
    refine pk_skip ?_
    refine thru_on ?_
    refine Pk.tells (hr.some_of (by simp; omega)) fun hA => ?_
    refine pk_seq ?_
    refine pk_block ?_
    refine pk_seq ?_
    refine pk_drawk (.val 0 (.val 1 (.val 2 (.val 3 (.val 4 (.val 5 (.val 6 (.val 7 (.val 8 (.val 9 .nil)))))))))) 1010 [] rfl (by kernel_rfl) (fun _ _ _ _ _ h => h) ?_
    refine ord_val rfl rfl rfl rfl (fun _ h => h) (val_move rfl rfl) ?_
    refine ord_val rfl rfl rfl rfl (fun _ h => h) (val_move rfl rfl) ?_
    refine ord_val rfl rfl rfl rfl (fun _ h => h) (val_indexAddr rfl Tryz.underlying24 1 (by kernel_rfl) rfl rfl _ rfl (by omega) (Ent.pure (by first | rfl | assumption))) ?_
    refine ord_val rfl rfl rfl rfl (fun _ h => h) (val_load rfl Tryz.underlying9 rfl rfl (by first | exact hr.rd (get_map emp (by omega)))) ?_
    refine ord_val rfl rfl rfl rfl (fun _ h => h) (val_move rfl rfl) ?_
    refine ord_val rfl rfl rfl rfl (fun _ h => h) (val_move rfl rfl) ?_
    refine ord_val rfl rfl rfl rfl (fun _ h => h) (val_sub rfl rfl rfl (by omega)) ?_
    refine ord_val rfl rfl rfl rfl (fun _ h => h) (val_indexAddr rfl Tryz.underlying24 1 (by kernel_rfl) rfl rfl (k - 1) (by omega) (by omega) (Ent.pure hA)) ?_
    refine ord_val rfl rfl rfl rfl (fun _ h => h) (val_load rfl Tryz.underlying9 rfl rfl (by first | exact hr.rd (get_map emp (by omega)))) ?_
    refine ord_val rfl rfl rfl rfl (fun _ h => h) (val_str_leq rfl rfl rfl) ?_
    refine ord_nil ?_
    refine thru_on ?_
    refine pk_ifb rfl (fun h2 => ?_) (fun h2 => ?_)
    · skip
      refine pk_seq ?_
      refine pk_region ?_
      refine pk_val rfl rfl rfl (val_assign rfl rfl) ?_
      refine pk_nil ?_
      refine thru_on ?_
      refine pk_ret ?_
      refine in_ret ?_
      refine thru_ret ?_
      refine thru_ret ?_
      refine in_ret ?_
      refine thru_ret ?_
      refine ret1 rfl rfl fun w s => ⟨?_, s⟩
      have h3 : riseB l = false := by
              cases hb : riseB l with
              | false => rfl
              | true =>
                have := (riseB_iff l).1 hb (k - 1) (by omega)
                rw [show k - 1 + 1 = k from by omega] at this
                have h3 := (not_leq _ _).2 this
                rw [h2] at h3; cases h3
      simp [h3]
    · skip
      refine pk_skip ?_
      refine in_on ?_
      refine thru_on ?_
      have hn : Rise l (k + 1) := fun j hj => by
              by_cases e : j + 1 = k
              · have := (not_leq _ _).1 h2
                rw [← e] at this
                exact this
              · exact hk j (by omega)
      refine pk_region ?_
      refine pk_val rfl rfl rfl (val_move rfl rfl) ?_
      refine pk_val rfl rfl rfl (val_add rfl rfl rfl (by omega)) ?_
      refine pk_val rfl rfl rfl (val_assign rfl rfl) ?_
      refine pk_nil ?_
      refine thru_on ?_
      refine pk_next (x := k) (k + 1) ?_ ?_ ?_ ?_
      · (try dsimp only) <;> exact ⟨by omega, hn⟩
      · (try dsimp only); exact (by omega)
      · exact ⟨(Sub.cons rfl (by first | rfl | (congr 1; omega) | simp) (Sub.cons rfl (by first | rfl | (congr 1; omega) | simp) (Sub.nil _))), rfl⟩
      · exact (fun _ h => h)
  · skip
    refine pk_exit ?_
    refine thru ?_
    refine thru ?_
    refine pk_here ?_
    refine thru_on ?_
    refine pk_seq ?_
    refine pk_region ?_
    refine pk_val rfl rfl rfl (val_move rfl rfl) ?_
    refine pk_val rfl rfl rfl (val_len_slice rfl Tryz.underlying24 rfl) ?_
    refine pk_val rfl rfl rfl (val_leq rfl rfl rfl) ?_
    refine pk_val rfl rfl rfl (val_assign rfl rfl) ?_
    refine pk_nil ?_
    refine thru_on ?_
    refine pk_ret ?_
    refine ret1 rfl rfl fun w s => ⟨?_, s⟩
    have hR : riseB l = true := (riseB_iff l).2 fun j hj => hk j (by omega)
    rw [hR, Bool.true_and]
    congr 3
    simp; omega
theorem slices_isNaN_string_c {E w : World} {L : List Ch} {a : ByteArray} (s : Sat E w L) : Calls Tryz.prog 255 #[.string a] w (Gives E (.bool false) L) := by
  refine enter (vs := [_]) Tryz.func255 rfl Tryz.ntmps255 rfl s ?_
  refine pk_seq ?_
  refine pk_region ?_
  refine pk_val rfl rfl rfl (val_assign rfl rfl) ?_
  refine pk_nil ?_
  refine thru_on ?_
  refine pk_seq ?_
  refine pk_region ?_
  refine pk_val rfl rfl rfl (val_move rfl rfl) ?_
  refine pk_val rfl rfl rfl (val_move rfl rfl) ?_
  refine pk_val rfl rfl rfl (val_str_neq rfl rfl rfl) ?_
  refine pk_val rfl rfl rfl (val_assign rfl rfl) ?_
  refine pk_nil ?_
  refine thru_on ?_
  refine pk_ret ?_
  refine ret1 rfl rfl fun w s => ⟨by simp, s⟩
theorem cmp_isNaN_string_c {E w : World} {L : List Ch} {a : ByteArray} (s : Sat E w L) : Calls Tryz.prog 237 #[.string a] w (Gives E (.bool false) L) := by
  refine enter (vs := [_]) Tryz.func237 rfl Tryz.ntmps237 rfl s ?_
  refine pk_seq ?_
  refine pk_region ?_
  refine pk_val rfl rfl rfl (val_assign rfl rfl) ?_
  refine pk_nil ?_
  refine thru_on ?_
  refine pk_seq ?_
  refine pk_region ?_
  refine pk_val rfl rfl rfl (val_move rfl rfl) ?_
  refine pk_val rfl rfl rfl (val_move rfl rfl) ?_
  refine pk_val rfl rfl rfl (val_str_neq rfl rfl rfl) ?_
  refine pk_val rfl rfl rfl (val_assign rfl rfl) ?_
  refine pk_nil ?_
  refine thru_on ?_
  refine pk_ret ?_
  refine ret1 rfl rfl fun w s => ⟨by simp, s⟩
theorem cmp_Less_string_c {E w : World} {L : List Ch} {a b : ByteArray} (s : Sat E w L) : Calls Tryz.prog 254 #[.string a, .string b] w (Gives E (.bool (slt a b)) L) := by
  refine enter (vs := [_, _]) Tryz.func254 rfl Tryz.ntmps254 rfl s ?_
  refine pk_seq ?_
  refine pk_region ?_
  refine pk_val rfl rfl rfl (val_assign rfl rfl) ?_
  refine pk_nil ?_
  refine thru_on ?_
  refine pk_seq ?_
  refine pk_region ?_
  refine pk_val rfl rfl rfl (val_move rfl rfl) ?_
  refine pk_eff (eff_call1 rfl ⟨_, Tryz.func237, by kernel_rfl, rfl⟩ rfl (fun E w s => cmp_isNaN_string_c s)) rfl rfl rfl (fun _ _ => ?_)
  refine pk_val rfl rfl rfl (val_move rfl rfl) ?_
  refine pk_guard_no rfl rfl rfl rfl rfl rfl ?_
  refine pk_guard_no rfl rfl rfl rfl rfl rfl ?_
  refine pk_guard_no rfl rfl rfl rfl rfl rfl ?_
  refine pk_val rfl rfl rfl (val_pick rfl rfl rfl rfl) ?_
  refine pk_val rfl rfl rfl (val_move rfl rfl) ?_
  refine pk_guard_yes rfl rfl rfl ?_
  refine pk_val rfl rfl rfl (val_move rfl rfl) ?_
  refine pk_guard_yes rfl rfl rfl ?_
  refine pk_val rfl rfl rfl (val_move rfl rfl) ?_
  refine pk_guard_yes rfl rfl rfl ?_
  refine pk_val rfl rfl rfl (val_str_lss rfl rfl rfl) ?_
  refine pk_val rfl rfl rfl (val_pick rfl rfl rfl rfl) ?_
  refine pk_val rfl rfl rfl (val_assign rfl rfl) ?_
  refine pk_nil ?_
  refine thru_on ?_
  refine pk_ret ?_
  refine ret1 rfl rfl fun w s => ⟨rfl, s⟩
theorem BinarySearch_string_c {E w : World} {L : List Ch} {A : Option Addr} {c : Nat} {l : List ByteArray} {x : ByteArray} (s : Sat E w L) (hr : Ent L (RdL A (l.map .string))) (hl : l.length ≤ 2305843009213693952) (hR : Rise l l.length) :
    Calls Tryz.prog 231 #[.slice A l.length c, .string x] w (GivesX E (fun i : Nat => .tuple #[.int .i64 i, .bool (memB l x)]) (fun _ => L) fun i => PlaceOf l x i) := by
  refine enter (vs := [_, _]) Tryz.func231 rfl Tryz.ntmps231 rfl s ?_
  refine pk_seq ?_
  refine pk_region ?_
  refine pk_val rfl rfl rfl (val_assign rfl rfl) ?_
  refine pk_val rfl rfl rfl (val_assign rfl rfl) ?_
  refine pk_nil ?_
  refine thru_on ?_
  refine pk_seq ?_
  refine pk_region ?_
  refine pk_val rfl rfl rfl (val_move rfl rfl) ?_
  refine pk_val rfl rfl rfl (val_len_slice rfl Tryz.underlying24 rfl) ?_
  refine pk_val rfl rfl rfl (val_assign rfl rfl) ?_
  refine pk_nil ?_
  refine thru_on ?_
  refine pk_seq ?_
  refine pk_region ?_
  refine pk_val rfl rfl rfl (val_move rfl rfl) ?_
  refine pk_val rfl rfl rfl (val_assign rfl rfl) ?_
  refine pk_val rfl rfl rfl (val_assign rfl rfl) ?_
  refine pk_nil ?_
  refine thru_on ?_
  refine pk_seq ?_
  refine pk_block ?_
  refine pk_loop (α := Nat × Nat) ((0, l.length)) (fun y => [(7, .int .i64 (y.1 : Nat)), (8, .int .i64 (y.2 : Nat)), (6, .int .i64 (l.length : Nat)), (0, .slice A l.length c), (1, .string x)]) (fun y => L) (fun y => y.1 ≤ y.2 ∧ y.2 ≤ l.length ∧ (∀ j, j < y.1 → slt (l.getD j emp) x = true) ∧ (∀ j, y.2 ≤ j → j < l.length → slt (l.getD j emp) x = false)) (fun y => y.2 - y.1) ?_ ?_ ?_ ?_
  · (try dsimp only) <;> exact ⟨Nat.zero_le _, Nat.le_refl _, fun j h => by omega, fun j h h' => by omega⟩
  · exact ⟨(Sub.cons rfl (by first | rfl | (congr 1; omega) | simp) (Sub.cons rfl (by first | rfl | (congr 1; omega) | simp) (Sub.cons rfl (by first | rfl | (congr 1; omega) | simp) (Sub.cons rfl (by first | rfl | (congr 1; omega) | simp) (Sub.cons rfl (by first | rfl | (congr 1; omega) | simp) (Sub.nil _)))))), rfl⟩
  · exact (fun _ h => h)
  rintro ⟨lo, hi⟩ ⟨h1, h2, h3, h4⟩
  dsimp only at h1 h2 h3 h4 ⊢
  refine pk_seq ?_
  refine pk_seq ?_
  refine pk_region ?_
  refine pk_val rfl rfl rfl (val_move rfl rfl) ?_
  refine pk_val rfl rfl rfl (val_move rfl rfl) ?_
  refine pk_val rfl rfl rfl (val_lss rfl rfl rfl) ?_
  refine pk_nil ?_
  refine thru_on ?_
  refine pk_if rfl (fun h => ?_) (fun h => ?_)
  · skip
    refine pk_skip ?_
    refine thru_on ?_
    refine pk_block ?_
    refine Pk.tells (hr.some_of (by simp; omega)) fun hA => ?_
    refine pk_seq ?_
    refine pk_region ?_
    refine pk_val rfl rfl rfl (val_move rfl rfl) ?_
    refine pk_val rfl rfl rfl (val_move rfl rfl) ?_
    refine pk_val rfl rfl rfl (val_add rfl rfl rfl (by omega)) ?_
    refine pk_val rfl rfl rfl (val_conv_fit rfl Tryz.underlying3 Tryz.underlying135 rfl (wrap_u64 ⟨by omega, by omega⟩)) ?_
    refine pk_val rfl rfl rfl (val_shr1 rfl rfl rfl) ?_
    refine pk_val rfl rfl rfl (val_conv_fit rfl Tryz.underlying135 Tryz.underlying3 rfl (wrap_i64 ⟨by omega, by omega⟩)) ?_
    refine pk_val rfl rfl rfl (val_assign rfl rfl) ?_
    refine pk_nil ?_
    refine thru_on ?_
    refine pk_seq ?_
    refine pk_region ?_
    refine Pk.slot 9 (v := .int .i64 (((lo + hi) / 2 : Nat) : Int)) rfl (congrArg _ (by omega)) ?_
    refine pk_val rfl rfl rfl (val_move rfl rfl) ?_
    refine pk_val rfl rfl rfl (val_move rfl rfl) ?_
    refine pk_val rfl rfl rfl (val_indexAddr rfl Tryz.underlying24 1 (by kernel_rfl) rfl rfl ((lo + hi) / 2) rfl (by omega) (Ent.pure hA)) ?_
    refine pk_val rfl rfl rfl (val_load rfl Tryz.underlying9 rfl rfl (by first | exact hr.rd (get_map emp (by omega)))) ?_
    refine pk_val rfl rfl rfl (val_move rfl rfl) ?_
    refine pk_eff (eff_call1 rfl ⟨_, Tryz.func254, by kernel_rfl, rfl⟩ rfl (fun E w s => cmp_Less_string_c s)) rfl rfl rfl (fun _ _ => ?_)
    refine pk_nil ?_
    refine thru_on ?_
    refine pk_ifb rfl (fun h5 => ?_) (fun h5 => ?_)
    · skip
      refine pk_region ?_
      refine pk_val rfl rfl rfl (val_move rfl rfl) ?_
      refine pk_val rfl rfl rfl (val_add rfl rfl rfl (by omega)) ?_
      refine pk_val rfl rfl rfl (val_assign rfl rfl) ?_
      refine pk_nil ?_
      refine in_on ?_
      refine thru_on ?_
      refine pk_next (x := ⟨lo, hi⟩) (((lo + hi) / 2 + 1, hi)) ?_ ?_ ?_ ?_
      · (try dsimp only) <;> exact ⟨by omega, h2, fun j hj => by
              by_cases e : j = (lo + hi) / 2
              · subst e; exact h5
              · exact slt_trans (hR.lt (show j < (lo + hi) / 2 by omega) (by omega)) h5, h4⟩
      · (try dsimp only); exact (by omega)
      · exact ⟨(Sub.cons rfl (by first | rfl | (congr 1; omega) | simp) (Sub.cons rfl (by first | rfl | (congr 1; omega) | simp) (Sub.cons rfl (by first | rfl | (congr 1; omega) | simp) (Sub.cons rfl (by first | rfl | (congr 1; omega) | simp) (Sub.cons rfl (by first | rfl | (congr 1; omega) | simp) (Sub.nil _)))))), rfl⟩
      · exact (fun _ h => h)
    · skip
      refine pk_region ?_
      refine pk_val rfl rfl rfl (val_move rfl rfl) ?_
      refine pk_val rfl rfl rfl (val_assign rfl rfl) ?_
      refine pk_nil ?_
      refine in_on ?_
      refine thru_on ?_
      refine pk_next (x := ⟨lo, hi⟩) ((lo, (lo + hi) / 2)) ?_ ?_ ?_ ?_
      · (try dsimp only) <;> exact ⟨by omega, by omega, h3, fun j hj hjl => by
              by_cases e : j = (lo + hi) / 2
              · subst e; exact h5
              · cases hb : slt (l.getD j emp) x with
                | false => rfl
                | true =>
                  have := slt_trans (hR.lt (show (lo + hi) / 2 < j by omega) hjl) hb
                  rw [h5] at this; cases this⟩
      · (try dsimp only); exact (by omega)
      · exact ⟨(Sub.cons rfl (by first | rfl | (congr 1; omega) | simp) (Sub.cons rfl (by first | rfl | (congr 1; omega) | simp) (Sub.cons rfl (by first | rfl | (congr 1; omega) | simp) (Sub.cons rfl (by first | rfl | (congr 1; omega) | simp) (Sub.cons rfl (by first | rfl | (congr 1; omega) | simp) (Sub.nil _)))))), rfl⟩
      · exact (fun _ h => h)
  · skip
    obtain rfl : lo = hi := by omega
    have hP : PlaceOf l x lo := ⟨h2, h3, h4⟩
    have hF := hP.found hR
    refine pk_exit ?_
    refine thru ?_
    refine thru ?_
    refine pk_here ?_
    refine thru_on ?_
    refine pk_seq ?_
    refine pk_region ?_
    refine pk_val rfl rfl rfl (val_move rfl rfl) ?_
    refine pk_val rfl rfl rfl (val_move rfl rfl) ?_
    refine pk_val rfl rfl rfl (val_move rfl rfl) ?_
    refine pk_val rfl rfl rfl (val_lss rfl rfl rfl) ?_
    refine pk_val rfl rfl rfl (val_move rfl rfl) ?_
    by_cases h6 : lo < l.length
    · skip
      refine Pk.slot 35 (v := .bool true) rfl (by simp [h6]) ?_
      refine Pk.tells (hr.some_of (by simp; omega)) fun hA => ?_
      refine pk_guard_yes rfl rfl rfl ?_
      refine pk_val rfl rfl rfl (val_move rfl rfl) ?_
      refine pk_guard_yes rfl rfl rfl ?_
      refine pk_val rfl rfl rfl (val_move rfl rfl) ?_
      refine pk_guard_yes rfl rfl rfl ?_
      refine pk_val rfl rfl rfl (val_indexAddr rfl Tryz.underlying24 1 (by kernel_rfl) rfl rfl _ rfl (by omega) (Ent.pure (by first | rfl | assumption))) ?_
      refine pk_guard_yes rfl rfl rfl ?_
      refine pk_val rfl rfl rfl (val_load rfl Tryz.underlying9 rfl rfl (by first | exact hr.rd (get_map emp (by omega)))) ?_
      refine pk_guard_yes rfl rfl rfl ?_
      refine pk_val rfl rfl rfl (val_move rfl rfl) ?_
      refine pk_guard_yes rfl rfl rfl ?_
      refine pk_val rfl rfl rfl (val_str_eql rfl rfl rfl) ?_
      refine pk_guard_yes rfl rfl rfl ?_
      refine pk_val rfl rfl rfl (val_move rfl rfl) ?_
      by_cases h7 : l.getD lo emp = x
      · skip
        refine Pk.slot 42 (v := .bool true) rfl (by simp only [h7, decide_true]) ?_
        refine pk_guard_no rfl rfl rfl rfl rfl rfl ?_
        refine pk_guard_no rfl rfl rfl rfl rfl rfl ?_
        refine pk_guard_no rfl rfl rfl rfl rfl rfl ?_
        refine pk_guard_no rfl rfl rfl rfl rfl rfl ?_
        refine pk_guard_no rfl rfl rfl rfl rfl rfl ?_
        refine pk_guard_no rfl rfl rfl rfl rfl rfl ?_
        refine pk_guard_un rfl rfl rfl rfl rfl ?_
        refine pk_guard_un rfl rfl rfl rfl rfl ?_
        refine pk_guard_no rfl rfl rfl rfl rfl rfl ?_
        refine pk_guard_yes rfl rfl rfl ?_
        refine pk_val rfl rfl rfl (val_pick rfl rfl rfl rfl) ?_
        refine pk_val rfl rfl rfl (val_pick rfl rfl rfl rfl) ?_
        refine pk_val rfl rfl rfl (val_assign rfl rfl) ?_
        refine pk_val rfl rfl rfl (val_assign rfl rfl) ?_
        refine pk_nil ?_
        refine thru_on ?_
        refine pk_ret ?_
        refine ret2 rfl rfl rfl fun w s => ⟨lo, hP, ?_, s⟩
        have : memB l x = true := memB_iff.2 (hF.2 ⟨h6, h7⟩)
        rw [this]; rfl
      · skip
        refine Pk.slot 42 (v := .bool false) rfl (by simp only [h7, decide_false]) ?_
        refine pk_guard_yes rfl rfl rfl ?_
        refine pk_val rfl rfl rfl (val_move rfl rfl) ?_
        refine pk_guard_yes rfl rfl rfl ?_
        refine pk_val rfl rfl rfl (val_move rfl rfl) ?_
        refine pk_guard_yes rfl rfl rfl ?_
        refine pk_val rfl rfl rfl (val_indexAddr rfl Tryz.underlying24 1 (by kernel_rfl) rfl rfl _ rfl (by omega) (Ent.pure (by first | rfl | assumption))) ?_
        refine pk_guard_yes rfl rfl rfl ?_
        refine pk_val rfl rfl rfl (val_load rfl Tryz.underlying9 rfl rfl (by first | exact hr.rd (get_map emp (by omega)))) ?_
        refine pk_guard_yes rfl rfl rfl ?_
        refine pk_eff (eff_call1 rfl ⟨_, Tryz.func255, by kernel_rfl, rfl⟩ rfl (fun E w s => slices_isNaN_string_c s)) rfl rfl rfl (fun _ _ => ?_)
        refine pk_guard_yes rfl rfl rfl ?_
        refine pk_val rfl rfl rfl (val_move rfl rfl) ?_
        refine pk_guard_no rfl rfl rfl rfl rfl rfl ?_
        refine pk_guard_no rfl rfl rfl rfl rfl rfl ?_
        refine pk_guard_yes rfl rfl rfl ?_
        refine pk_val rfl rfl rfl (val_pick rfl rfl rfl rfl) ?_
        refine pk_guard_yes rfl rfl rfl ?_
        refine pk_val rfl rfl rfl (val_pick rfl rfl rfl rfl) ?_
        refine pk_val rfl rfl rfl (val_pick rfl rfl rfl rfl) ?_
        refine pk_val rfl rfl rfl (val_assign rfl rfl) ?_
        refine pk_val rfl rfl rfl (val_assign rfl rfl) ?_
        refine pk_nil ?_
        refine thru_on ?_
        refine pk_ret ?_
        refine ret2 rfl rfl rfl fun w s => ⟨lo, hP, ?_, s⟩
        have : memB l x = false := memB_not fun hx => h7 (hF.1 hx).2
        rw [this]; rfl
    · skip
      refine Pk.slot 35 (v := .bool false) rfl (by simp [h6]) ?_
      refine pk_guard_no rfl rfl rfl rfl rfl rfl ?_
      refine pk_guard_no rfl rfl rfl rfl rfl rfl ?_
      refine pk_guard_no rfl rfl rfl rfl rfl rfl ?_
      refine pk_guard_no rfl rfl rfl rfl rfl rfl ?_
      refine pk_guard_no rfl rfl rfl rfl rfl rfl ?_
      refine pk_guard_no rfl rfl rfl rfl rfl rfl ?_
      refine pk_guard_no rfl rfl rfl rfl rfl rfl ?_
      refine pk_guard_un rfl rfl rfl rfl rfl ?_
      refine pk_guard_un rfl rfl rfl rfl rfl ?_
      refine pk_guard_un rfl rfl rfl rfl rfl ?_
      refine pk_guard_un rfl rfl rfl rfl rfl ?_
      refine pk_guard_un rfl rfl rfl rfl rfl ?_
      refine pk_guard_un rfl rfl rfl rfl rfl ?_
      refine pk_guard_un rfl rfl rfl rfl rfl ?_
      refine pk_guard_un rfl rfl rfl rfl rfl ?_
      refine pk_guard_un rfl rfl rfl rfl rfl ?_
      refine pk_guard_no rfl rfl rfl rfl rfl rfl ?_
      refine pk_val rfl rfl rfl (val_pick rfl rfl rfl rfl) ?_
      refine pk_val rfl rfl rfl (val_assign rfl rfl) ?_
      refine pk_val rfl rfl rfl (val_assign rfl rfl) ?_
      refine pk_nil ?_
      refine thru_on ?_
      refine pk_ret ?_
      refine ret2 rfl rfl rfl fun w s => ⟨lo, hP, ?_, s⟩
      have : memB l x = false := memB_not fun hx => h6 (hF.1 hx).1
      rw [this]; rfl
end Go.Proofs.YtdpckendkklfdaaGreat
