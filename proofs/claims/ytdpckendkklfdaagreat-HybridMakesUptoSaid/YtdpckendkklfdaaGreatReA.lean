/- The walks of the references: rampartref01.Hash, rampartref04.Rising and Has, rampartref27's filter. -/
import Derived.Test.YtdpckendkklfdaaGreatBlD
import Derived.Test.YtdpckendkklfdaaGreatHyA
set_option linter.unusedVariables false
set_option linter.unusedSimpArgs false
set_option maxRecDepth 100000
namespace Go.Proofs.YtdpckendkklfdaaGreat
open Go.RowKit Go.Proofs.Eng
theorem ref01_Feed_c {E w : World} {L : List Ch} {z : Int} {x : ByteArray} (s : Sat E w L) (hx : x.size ≤ 4611686018427387904) :
    Calls Tryz.prog 221 #[.int .u64 z, .string x] w (Gives E (.int .u64 (feedB z x.data.toList)) L) := by
  refine enter (vs := [_, _]) Tryz.func221 rfl Tryz.ntmps221 rfl s ?_
  refine pk_seq ?_
  refine pk_region ?_
  refine pk_val rfl rfl rfl (val_assign rfl rfl) ?_
  refine pk_nil ?_
  refine thru_on ?_
  refine pk_seq ?_
  refine pk_seq ?_
  refine pk_region ?_
  refine pk_val rfl rfl rfl (val_assign rfl rfl) ?_
  refine pk_nil ?_
  refine thru_on ?_
  refine pk_block ?_
  refine pk_loop (α := Nat) (0) (fun k => [(0, .int .u64 (feedB z (x.data.toList.take k))), (1, .string x), (5, .int .i64 (k : Nat))]) (fun k => L) (fun k => k ≤ x.size) (fun k => x.size - k) ?_ ?_ ?_ ?_
  · (try dsimp only) <;> exact Nat.zero_le _
  · exact ⟨(Sub.cons rfl (by first | rfl | (congr 1; omega) | simp) (Sub.cons rfl (by first | rfl | (congr 1; omega) | simp) (Sub.cons rfl (by first | rfl | (congr 1; omega) | simp) (Sub.nil _)))), rfl⟩
  · exact (fun _ h => h)
  rintro k hk0
  have hxl : x.data.toList.length = x.size := by rw [Array.length_toList]; rfl
  refine pk_seq ?_
  refine pk_seq ?_
  refine pk_region ?_
  refine pk_val rfl rfl rfl (val_move rfl rfl) ?_
  refine pk_val rfl rfl rfl (val_move rfl rfl) ?_
  refine pk_val rfl rfl rfl (val_len_string rfl Tryz.underlying9 rfl) ?_
  refine pk_val rfl rfl rfl (val_lss rfl rfl rfl) ?_
  refine pk_nil ?_
  refine thru_on ?_
  refine pk_if rfl (fun h => ?_) (fun h => ?_)
  · skip
    refine pk_skip ?_
    refine thru_on ?_
    have hk : k < x.size := by omega
    refine pk_seq ?_
    refine pk_block ?_
    refine pk_region ?_
    refine pk_val rfl rfl rfl (val_move rfl rfl) ?_
    refine pk_val rfl rfl rfl (val_move rfl rfl) ?_
    refine pk_val rfl rfl rfl (val_move rfl rfl) ?_
    refine pk_val rfl rfl rfl (val_index_string rfl Tryz.underlying9 rfl rfl k rfl hk) ?_
    refine pk_val rfl rfl rfl (val_conv_fit rfl Tryz.underlying5 Tryz.underlying22 rfl (u8_fit _)) ?_
    refine pk_val rfl rfl rfl (val_xorw rfl rfl rfl) ?_
    refine pk_val rfl rfl rfl (val_mulw rfl rfl rfl) ?_
    refine pk_val rfl rfl rfl (val_assign rfl rfl) ?_
    refine pk_nil ?_
    refine in_on ?_
    refine thru_on ?_
    refine pk_region ?_
    refine pk_val rfl rfl rfl (val_move rfl rfl) ?_
    refine pk_val rfl rfl rfl (val_add rfl rfl rfl (by omega)) ?_
    refine pk_val rfl rfl rfl (val_assign rfl rfl) ?_
    refine pk_nil ?_
    refine thru_on ?_
    refine pk_next (x := k) (k + 1) ?_ ?_ ?_ ?_
    · (try dsimp only) <;> exact hk
    · (try dsimp only); exact (by omega)
    · exact ⟨(Sub.cons rfl (by rw [feedB_take _ _ (by omega)]) (Sub.cons rfl (by first | rfl | (congr 1; omega) | simp) (Sub.cons rfl (by first | rfl | (congr 1; omega) | simp) (Sub.nil _)))), rfl⟩
    · exact (fun _ h => h)
  · skip
    refine pk_exit ?_
    refine thru ?_
    refine thru ?_
    refine pk_here ?_
    refine thru_on ?_
    refine pk_seq ?_
    refine pk_region ?_
    refine pk_val rfl rfl rfl (val_move rfl rfl) ?_
    refine pk_val rfl rfl rfl (val_assign rfl rfl) ?_
    refine pk_nil ?_
    refine thru_on ?_
    refine pk_ret ?_
    have hkk : k = x.size := by omega
    refine ret1 rfl rfl fun w s => ⟨?_, s⟩
    rw [List.take_of_length_le (by omega)]
theorem ref01_Hash_c {E w : World} {L : List Ch} {x : ByteArray} (s : Sat E w L) (hx : x.size ≤ 4611686018427387904) : Calls Tryz.prog 165 #[.string x] w (Gives E (.int .u64 (hashB x)) L) := by
  refine enter (vs := [_]) Tryz.func165 rfl Tryz.ntmps165 rfl s ?_
  refine pk_seq ?_
  refine pk_region ?_
  refine pk_val rfl rfl rfl (val_assign rfl rfl) ?_
  refine pk_nil ?_
  refine thru_on ?_
  refine pk_seq ?_
  refine pk_region ?_
  refine pk_val rfl rfl rfl (val_move rfl rfl) ?_
  refine pk_eff (eff_call1 rfl ⟨_, Tryz.func221, by kernel_rfl, rfl⟩ rfl (fun E w s => ref01_Feed_c s hx)) rfl rfl rfl (fun _ _ => ?_)
  refine pk_val rfl rfl rfl (val_assign rfl rfl) ?_
  refine pk_nil ?_
  refine thru_on ?_
  refine pk_ret ?_
  refine ret1 rfl rfl fun w s => ⟨rfl, s⟩
theorem ref04_Rising_c {E w : World} {L : List Ch} {A : Option Addr} {c n : Nat} {l : List ByteArray} (s : Sat E w L) (hr : Ent L (RdL A (l.map .string))) (hn : l.length = n) (hl : n ≤ 1099511627776) :
    Calls Tryz.prog 70 #[.slice A n c] w (Gives E (.bool (riseB l)) L) := by
  subst hn
  refine enter (vs := [_]) Tryz.func70 rfl Tryz.ntmps70 rfl s ?_
  refine pk_seq ?_
  refine pk_region ?_
  refine pk_val rfl rfl rfl (val_assign rfl rfl) ?_
  refine pk_nil ?_
  refine thru_on ?_
  refine pk_seq ?_
  refine pk_seq ?_
  refine pk_region ?_
  refine pk_val rfl rfl rfl (val_assign rfl rfl) ?_
  refine pk_nil ?_
  refine thru_on ?_
  refine pk_block ?_
  refine pk_loop (α := Nat) (1) (fun k => [(3, .int .i64 k), (0, .slice A l.length c)]) (fun k => L) (fun k => 1 ≤ k ∧ Rise l k) (fun k => l.length - k) ?_ ?_ ?_ ?_
  · (try dsimp only) <;> exact ⟨Nat.le_refl _, fun j h => by omega⟩
  · exact ⟨(Sub.cons rfl (by first | rfl | (congr 1; omega) | simp) (Sub.cons rfl (by first | rfl | (congr 1; omega) | simp) (Sub.nil _))), rfl⟩
  · exact (fun _ h => h)
  rintro k ⟨hk1, hk⟩
  refine pk_seq ?_
  refine pk_seq ?_
  refine pk_region ?_
  refine pk_val rfl rfl rfl (val_move rfl rfl) ?_
  refine pk_val rfl rfl rfl (val_move rfl rfl) ?_
  refine pk_val rfl rfl rfl (val_len_slice rfl Tryz.underlying24 rfl) ?_
  refine pk_val rfl rfl rfl (val_lss rfl rfl rfl) ?_
  refine pk_nil ?_
  refine thru_on ?_
  refine pk_if rfl (fun h => ?_) (fun h => ?_)
  · skip
    refine pk_skip ?_
    refine thru_on ?_
    refine Pk.tells (hr.some_of (by simp; omega)) fun hA => ?_
    refine pk_seq ?_
    refine pk_block ?_
    refine pk_seq ?_
    refine pk_drawk (.val 0 (.val 1 (.val 2 (.val 3 (.val 4 (.val 5 (.val 6 (.val 7 (.val 8 (.val 9 .nil)))))))))) 1010 [] rfl (by kernel_rfl) (fun _ _ _ _ _ h => h) ?_
    refine ord_val rfl rfl rfl rfl (fun _ h => h) (val_move rfl rfl) ?_
    refine ord_val rfl rfl rfl rfl (fun _ h => h) (val_move rfl rfl) ?_
    refine ord_val rfl rfl rfl rfl (fun _ h => h) (val_indexAddr rfl Tryz.underlying24 1 (by kernel_rfl) rfl rfl k rfl (by omega) (Ent.pure hA)) ?_
    refine ord_val rfl rfl rfl rfl (fun _ h => h) (val_load rfl Tryz.underlying9 rfl rfl (hr.rd (get_map emp (by omega)))) ?_
    refine ord_val rfl rfl rfl rfl (fun _ h => h) (val_move rfl rfl) ?_
    refine ord_val rfl rfl rfl rfl (fun _ h => h) (val_move rfl rfl) ?_
    refine ord_val rfl rfl rfl rfl (fun _ h => h) (val_sub rfl rfl rfl (by omega)) ?_
    refine ord_val rfl rfl rfl rfl (fun _ h => h) (val_indexAddr rfl Tryz.underlying24 1 (by kernel_rfl) rfl rfl (k - 1) (by omega) (by omega) (Ent.pure hA)) ?_
    refine ord_val rfl rfl rfl rfl (fun _ h => h) (val_load rfl Tryz.underlying9 rfl rfl (hr.rd (get_map emp (by omega)))) ?_
    refine ord_val rfl rfl rfl rfl (fun _ h => h) (val_str_leq rfl rfl rfl) ?_
    refine ord_nil ?_
    refine thru_on ?_
    refine pk_ifb rfl (fun h2 => ?_) (fun h2 => ?_)
    · skip
      refine pk_seq ?_
      refine pk_region ?_
      refine pk_val rfl rfl rfl (val_assign rfl rfl) ?_
      refine pk_nil ?_
      refine thru_on ?_
      refine pk_ret ?_
      refine in_ret ?_
      refine thru_ret ?_
      refine thru_ret ?_
      refine in_ret ?_
      refine thru_ret ?_
      refine ret1 rfl rfl fun w s => ⟨?_, s⟩
      have h3 : riseB l = false := by
              cases hb : riseB l with
              | false => rfl
              | true =>
                have := (riseB_iff l).1 hb (k - 1) (by omega)
                rw [show k - 1 + 1 = k by omega] at this
                have h3 := (not_leq _ _).2 this
                rw [h2] at h3; cases h3
      rw [h3]
    · skip
      refine pk_skip ?_
      refine in_on ?_
      refine thru_on ?_
      have hn : Rise l (k + 1) := fun j hj => by
              by_cases e : j + 1 = k
              · have := (not_leq _ _).1 h2
                rw [← e] at this
                exact this
              · exact hk j (by omega)
      refine pk_region ?_
      refine pk_val rfl rfl rfl (val_move rfl rfl) ?_
      refine pk_val rfl rfl rfl (val_add rfl rfl rfl (by omega)) ?_
      refine pk_val rfl rfl rfl (val_assign rfl rfl) ?_
      refine pk_nil ?_
      refine thru_on ?_
      refine pk_next (x := k) (k + 1) ?_ ?_ ?_ ?_
      · (try dsimp only) <;> exact ⟨by omega, hn⟩
      · (try dsimp only); exact (by omega)
      · exact ⟨(Sub.cons rfl (by first | rfl | (congr 1; omega) | simp) (Sub.cons rfl (by first | rfl | (congr 1; omega) | simp) (Sub.nil _))), rfl⟩
      · exact (fun _ h => h)
  · skip
    refine pk_exit ?_
    refine thru ?_
    refine thru ?_
    refine pk_here ?_
    refine thru_on ?_
    refine pk_seq ?_
    refine pk_region ?_
    refine pk_val rfl rfl rfl (val_assign rfl rfl) ?_
    refine pk_nil ?_
    refine thru_on ?_
    refine pk_ret ?_
    have hR : riseB l = true := (riseB_iff l).2 fun j hj => hk j (by omega)
    refine ret1 rfl rfl fun w s => ⟨?_, s⟩
    rw [hR]
theorem memB_no {l : List ByteArray} {x : ByteArray} (h : ∀ j, j < l.length → ¬ l.getD j emp = x) : memB l x = false := by
  unfold memB
  rw [List.any_eq_false]
  intro y hy
  obtain ⟨j, hj, e⟩ := getD_of_mem hy
  have := h j hj
  rw [e] at this
  simpa using this
theorem memB_yes {l : List ByteArray} {x : ByteArray} {k : Nat} (hk : k < l.length) (h : l.getD k emp = x) : memB l x = true := by
  unfold memB
  rw [List.any_eq_true]
  exact ⟨_, getD_mem emp hk, by simpa using h⟩
theorem ref04_in_c {E w : World} {L : List Ch} {A : Option Addr} {c n : Nat} {l : List ByteArray} {x : ByteArray} (s : Sat E w L) (hr : Ent L (RdL A (l.map .string))) (hn : l.length = n) (hl : n ≤ 1099511627776) :
    Calls Tryz.prog 154 #[.slice A n c, .string x] w (Gives E (.bool (memB l x)) L) := by
  subst hn
  refine enter (vs := [_, _]) Tryz.func154 rfl Tryz.ntmps154 rfl s ?_
  refine pk_seq ?_
  refine pk_region ?_
  refine pk_val rfl rfl rfl (val_assign rfl rfl) ?_
  refine pk_nil ?_
  refine thru_on ?_
  refine pk_seq ?_
  refine pk_seq ?_
  refine pk_region ?_
  refine pk_val rfl rfl rfl (val_assign rfl rfl) ?_
  refine pk_nil ?_
  refine thru_on ?_
  refine pk_block ?_
  refine pk_loop (α := Nat) (0) (fun k => [(0, .slice A l.length c), (1, .string x), (5, .int .i64 (k : Nat))]) (fun k => L) (fun k => k ≤ l.length ∧ ∀ j, j < k → ¬ l.getD j emp = x) (fun k => l.length - k) ?_ ?_ ?_ ?_
  · (try dsimp only) <;> exact ⟨Nat.zero_le _, fun j h => by omega⟩
  · exact ⟨(Sub.cons rfl (by first | rfl | (congr 1; omega) | simp) (Sub.cons rfl (by first | rfl | (congr 1; omega) | simp) (Sub.cons rfl (by first | rfl | (congr 1; omega) | simp) (Sub.nil _)))), rfl⟩
  · exact (fun _ h => h)
  rintro k ⟨hk0, hI⟩
  refine pk_seq ?_
  refine pk_seq ?_
  refine pk_region ?_
  refine pk_val rfl rfl rfl (val_move rfl rfl) ?_
  refine pk_val rfl rfl rfl (val_move rfl rfl) ?_
  refine pk_val rfl rfl rfl (val_len_slice rfl Tryz.underlying24 rfl) ?_
  refine pk_val rfl rfl rfl (val_lss rfl rfl rfl) ?_
  refine pk_nil ?_
  refine thru_on ?_
  refine pk_if rfl (fun h => ?_) (fun h => ?_)
  · skip
    refine pk_skip ?_
    refine thru_on ?_
    have hk : k < l.length := by omega
    refine Pk.tells (hr.some_of (by rw [List.length_map]; omega)) fun hA => ?_
    refine pk_seq ?_
    refine pk_block ?_
    refine pk_seq ?_
    refine pk_region ?_
    refine pk_val rfl rfl rfl (val_move rfl rfl) ?_
    refine pk_val rfl rfl rfl (val_move rfl rfl) ?_
    refine pk_val rfl rfl rfl (val_indexAddr rfl Tryz.underlying24 1 (by kernel_rfl) rfl rfl k rfl hk (Ent.pure hA)) ?_
    refine pk_val rfl rfl rfl (val_load rfl Tryz.underlying9 rfl rfl (hr.rd (get_map emp hk))) ?_
    refine pk_val rfl rfl rfl (val_move rfl rfl) ?_
    refine pk_val rfl rfl rfl (val_str_eql rfl rfl rfl) ?_
    refine pk_nil ?_
    refine thru_on ?_
    refine pk_if rfl (fun h2 => ?_) (fun h2 => ?_)
    · skip
      refine pk_seq ?_
      refine pk_region ?_
      refine pk_val rfl rfl rfl (val_assign rfl rfl) ?_
      refine pk_nil ?_
      refine thru_on ?_
      refine pk_ret ?_
      refine in_ret ?_
      refine thru_ret ?_
      refine thru_ret ?_
      refine in_ret ?_
      refine thru_ret ?_
      refine ret1 rfl rfl fun w s => ⟨?_, s⟩
      rw [memB_yes hk h2]
    · skip
      refine pk_skip ?_
      refine in_on ?_
      refine thru_on ?_
      refine pk_region ?_
      refine pk_val rfl rfl rfl (val_move rfl rfl) ?_
      refine pk_val rfl rfl rfl (val_add rfl rfl rfl (by omega)) ?_
      refine pk_val rfl rfl rfl (val_assign rfl rfl) ?_
      refine pk_nil ?_
      refine thru_on ?_
      refine pk_next (x := k) (k + 1) ?_ ?_ ?_ ?_
      · (try dsimp only) <;> exact ⟨hk, fun j hj => by
        by_cases e : j = k
        · subst e; exact h2
        · exact hI j (by omega)⟩
      · (try dsimp only); exact (by omega)
      · exact ⟨(Sub.cons rfl (by first | rfl | (congr 1; omega) | simp) (Sub.cons rfl (by first | rfl | (congr 1; omega) | simp) (Sub.cons rfl (by first | rfl | (congr 1; omega) | simp) (Sub.nil _)))), rfl⟩
      · exact (fun _ h => h)
  · skip
    refine pk_exit ?_
    refine thru ?_
    refine thru ?_
    refine pk_here ?_
    refine thru_on ?_
    refine pk_seq ?_
    refine pk_region ?_
    refine pk_val rfl rfl rfl (val_assign rfl rfl) ?_
    refine pk_nil ?_
    refine thru_on ?_
    refine pk_ret ?_
    have hkk : k = l.length := by omega
    subst hkk
    refine ret1 rfl rfl fun w s => ⟨?_, s⟩
    rw [memB_no hI]
theorem ref04_Has_c {E w : World} {L : List Ch} {A : Option Addr} {c n : Nat} {l : List ByteArray} {x : ByteArray} (s : Sat E w L) (hr : Ent L (RdL A (l.map .string))) (hn : l.length = n) (hl : n ≤ 1099511627776) :
    Calls Tryz.prog 71 #[.slice A n c, .string x] w (Gives E (.bool (riseB l && memB l x)) L) := by
  refine enter (vs := [_, _]) Tryz.func71 rfl Tryz.ntmps71 rfl s ?_
  refine pk_seq ?_
  refine pk_region ?_
  refine pk_val rfl rfl rfl (val_assign rfl rfl) ?_
  refine pk_nil ?_
  refine thru_on ?_
  refine pk_seq ?_
  refine pk_region ?_
  refine pk_val rfl rfl rfl (val_move rfl rfl) ?_
  refine pk_eff (eff_call1 rfl ⟨_, Tryz.func70, by kernel_rfl, rfl⟩ rfl (fun E w s => ref04_Rising_c s hr hn hl)) rfl rfl rfl (fun _ _ => ?_)
  refine pk_val rfl rfl rfl (val_assign rfl rfl) ?_
  refine pk_nil ?_
  refine thru_on ?_
  refine pk_seq ?_
  refine pk_region ?_
  refine pk_val rfl rfl rfl (val_move rfl rfl) ?_
  refine pk_val rfl rfl rfl (val_move rfl rfl) ?_
  by_cases hR : riseB l = true
  · skip
    refine Pk.slot 9 (v := .bool true) rfl (by rw [hR]) ?_
    refine pk_guard_yes rfl rfl rfl ?_
    refine pk_val rfl rfl rfl (val_move rfl rfl) ?_
    refine pk_guard_yes rfl rfl rfl ?_
    refine pk_val rfl rfl rfl (val_move rfl rfl) ?_
    refine pk_guard_yes rfl rfl rfl ?_
    refine pk_eff (eff_call1 rfl ⟨_, Tryz.func154, by kernel_rfl, rfl⟩ rfl (fun E w s => ref04_in_c s hr hn hl)) rfl rfl rfl (fun _ _ => ?_)
    refine pk_val rfl rfl rfl (val_pick rfl rfl rfl rfl) ?_
    refine pk_val rfl rfl rfl (val_assign rfl rfl) ?_
    refine pk_nil ?_
    refine thru_on ?_
    refine pk_ret ?_
    refine ret1 rfl rfl fun w s => ⟨?_, s⟩
    rw [hR]; rfl
  · skip
    have hR' : riseB l = false := by simpa using hR
    refine Pk.slot 9 (v := .bool false) rfl (by rw [hR']) ?_
    refine pk_guard_no rfl rfl rfl rfl rfl rfl ?_
    refine pk_guard_no rfl rfl rfl rfl rfl rfl ?_
    refine pk_guard_no rfl rfl rfl rfl rfl rfl ?_
    refine pk_val rfl rfl rfl (val_pick rfl rfl rfl rfl) ?_
    refine pk_val rfl rfl rfl (val_assign rfl rfl) ?_
    refine pk_nil ?_
    refine thru_on ?_
    refine pk_ret ?_
    refine ret1 rfl rfl fun w s => ⟨?_, s⟩
    rw [hR']; rfl
theorem ref27_May_c {E w : World} {L : List Ch} {b h : Int} (s : Sat E w L) : Calls Tryz.prog 153 #[.int .i64 b, .int .i64 h] w (Gives E (.bool (mayF b h)) L) := by
  refine enter (vs := [_, _]) Tryz.func153 rfl Tryz.ntmps153 rfl s ?_
  refine pk_seq ?_
  refine pk_region ?_
  refine pk_val rfl rfl rfl (val_assign rfl rfl) ?_
  refine pk_nil ?_
  refine thru_on ?_
  refine pk_seq ?_
  refine pk_region ?_
  refine pk_val rfl rfl rfl (val_move rfl rfl) ?_
  refine pk_val rfl rfl rfl (val_geq rfl rfl rfl) ?_
  refine pk_val rfl rfl rfl (val_move rfl rfl) ?_
  by_cases h1 : 1 ≤ b
  · skip
    refine Pk.slot 7 (v := .bool true) rfl (congrArg Value.bool (decide_eq_true h1)) ?_
    refine pk_guard_yes rfl rfl rfl ?_
    refine pk_val rfl rfl rfl (val_move rfl rfl) ?_
    refine pk_guard_yes rfl rfl rfl ?_
    refine pk_val rfl rfl rfl (val_leq rfl rfl rfl) ?_
    refine pk_val rfl rfl rfl (val_pick rfl rfl rfl rfl) ?_
    refine pk_val rfl rfl rfl (val_move rfl rfl) ?_
    by_cases h2 : b ≤ 65536
    · skip
      refine Pk.slot 11 (v := .bool true) rfl (congrArg Value.bool (decide_eq_true h2)) ?_
      refine pk_guard_yes rfl rfl rfl ?_
      refine pk_val rfl rfl rfl (val_move rfl rfl) ?_
      refine pk_guard_yes rfl rfl rfl ?_
      refine pk_val rfl rfl rfl (val_geq rfl rfl rfl) ?_
      refine pk_val rfl rfl rfl (val_pick rfl rfl rfl rfl) ?_
      refine pk_val rfl rfl rfl (val_move rfl rfl) ?_
      by_cases h3 : 1 ≤ h
      · skip
        refine Pk.slot 15 (v := .bool true) rfl (congrArg Value.bool (decide_eq_true h3)) ?_
        refine pk_guard_yes rfl rfl rfl ?_
        refine pk_val rfl rfl rfl (val_move rfl rfl) ?_
        refine pk_guard_yes rfl rfl rfl ?_
        refine pk_val rfl rfl rfl (val_leq rfl rfl rfl) ?_
        refine pk_val rfl rfl rfl (val_pick rfl rfl rfl rfl) ?_
        refine pk_val rfl rfl rfl (val_assign rfl rfl) ?_
        refine pk_nil ?_
        refine thru_on ?_
        refine pk_ret ?_
        refine ret1 rfl rfl fun w s => ⟨?_, s⟩
        rw [mayF, decide_eq_true h1, decide_eq_true h2, decide_eq_true h3]; rfl
      · skip
        refine Pk.slot 15 (v := .bool false) rfl (congrArg Value.bool (decide_eq_false h3)) ?_
        refine pk_guard_no rfl rfl rfl rfl rfl rfl ?_
        refine pk_guard_no rfl rfl rfl rfl rfl rfl ?_
        refine pk_val rfl rfl rfl (val_pick rfl rfl rfl rfl) ?_
        refine pk_val rfl rfl rfl (val_assign rfl rfl) ?_
        refine pk_nil ?_
        refine thru_on ?_
        refine pk_ret ?_
        refine ret1 rfl rfl fun w s => ⟨?_, s⟩
        rw [mayF, decide_eq_true h1, decide_eq_true h2, decide_eq_false h3]; rfl
    · skip
      refine Pk.slot 11 (v := .bool false) rfl (congrArg Value.bool (decide_eq_false h2)) ?_
      refine pk_guard_no rfl rfl rfl rfl rfl rfl ?_
      refine pk_guard_no rfl rfl rfl rfl rfl rfl ?_
      refine pk_val rfl rfl rfl (val_pick rfl rfl rfl rfl) ?_
      refine pk_val rfl rfl rfl (val_move rfl rfl) ?_
      refine pk_guard_no rfl rfl rfl rfl rfl rfl ?_
      refine pk_guard_no rfl rfl rfl rfl rfl rfl ?_
      refine pk_val rfl rfl rfl (val_pick rfl rfl rfl rfl) ?_
      refine pk_val rfl rfl rfl (val_assign rfl rfl) ?_
      refine pk_nil ?_
      refine thru_on ?_
      refine pk_ret ?_
      refine ret1 rfl rfl fun w s => ⟨?_, s⟩
      rw [mayF, decide_eq_true h1, decide_eq_false h2]; rfl
  · skip
    refine Pk.slot 7 (v := .bool false) rfl (congrArg Value.bool (decide_eq_false h1)) ?_
    refine pk_guard_no rfl rfl rfl rfl rfl rfl ?_
    refine pk_guard_no rfl rfl rfl rfl rfl rfl ?_
    refine pk_val rfl rfl rfl (val_pick rfl rfl rfl rfl) ?_
    refine pk_val rfl rfl rfl (val_move rfl rfl) ?_
    refine pk_guard_no rfl rfl rfl rfl rfl rfl ?_
    refine pk_guard_no rfl rfl rfl rfl rfl rfl ?_
    refine pk_val rfl rfl rfl (val_pick rfl rfl rfl rfl) ?_
    refine pk_val rfl rfl rfl (val_move rfl rfl) ?_
    refine pk_guard_no rfl rfl rfl rfl rfl rfl ?_
    refine pk_guard_no rfl rfl rfl rfl rfl rfl ?_
    refine pk_val rfl rfl rfl (val_pick rfl rfl rfl rfl) ?_
    refine pk_val rfl rfl rfl (val_assign rfl rfl) ?_
    refine pk_nil ?_
    refine thru_on ?_
    refine pk_ret ?_
    refine ret1 rfl rfl fun w s => ⟨?_, s⟩
    rw [mayF, decide_eq_false h1]; rfl
/-- the reference's filter -/
structure Rf where
  b : Nat
  h : Nat
  on : List Bool
  A : Option Addr
  c : Nat
def Rf.box (f : Rf) : List Value := [.int .i64 (f.b : Nat), .int .i64 (f.h : Nat), .slice f.A f.on.length f.c]
def rfP (B : Nat) (f : Rf) : List Ch := [own (some ⟨B, 0, none⟩) 1 1 246 3 f.box, own f.A f.on.length f.c 4 1 (f.on.map .bool)]
def rfCh (B : Nat) (f : Rf) : Ch := Eng.cat (rfP B f)
theorem rf_open {B : Nat} {f : Rf} {L : List Ch} {h : Hp} (s : Sats (rfCh B f :: L) h) : Sats (rfP B f ++ L) h := Sats.cat_open s
theorem rf_shut {B : Nat} {f : Rf} {L : List Ch} {h : Hp} (s : Sats (rfP B f ++ L) h) : Sats (rfCh B f :: L) h := Sats.cat_shut s
structure RfOk (f : Rf) : Prop where
  b1 : 1 ≤ f.b
  b2 : f.b ≤ 65536
  h1 : 1 ≤ f.h
  h2 : f.h ≤ 16
  len : f.on.length = f.b
def onL (on : List Bool) (l : List Nat) : List Bool := l.foldl (fun on p => on.set p true) on
theorem onL_len : ∀ (l : List Nat) (on : List Bool), (onL on l).length = on.length
  | [], on => rfl
  | p :: r, on => by rw [onL, List.foldl_cons]; exact (onL_len r _).trans (List.length_set ..)
def onT (on : List Bool) (b h : Nat) (t : ByteArray) : List Bool := onL on (plN t b h)
theorem onL_take {on : List Bool} {l : List Nat} {k : Nat} (h : k < l.length) : onL on (l.take (k + 1)) = (onL on (l.take k)).set (l.getD k 0) true := by
  rw [onL, List.take_succ_eq_append_getElem h, List.foldl_append]; simp [h, onL]
theorem ref27_New_c {E w : World} {L : List Ch} {b h : Nat} (s : Sat E w L) (hm : mayF b h = true) : Calls Tryz.prog 69 #[.int .i64 b, .int .i64 h] w (GivesX E (fun q : Nat × Nat => .tuple #[ptr (some ⟨q.1, 0, none⟩) 0, .int .i64 0]) (fun q => rfCh q.1 ⟨b, h, List.replicate b false, some ⟨q.2, 0, none⟩, b⟩ :: L) (fun _ => True)) := by
  refine enter (vs := [_, _]) Tryz.func69 rfl Tryz.ntmps69 rfl s ?_
  have hmm := (mayF_iff _ _).1 hm
  refine pk_seq ?_
  refine pk_region ?_
  refine pk_val rfl rfl rfl (val_assign rfl rfl) ?_
  refine pk_val rfl rfl rfl (val_assign rfl rfl) ?_
  refine pk_nil ?_
  refine thru_on ?_
  refine pk_seq ?_
  refine pk_seq ?_
  refine pk_region ?_
  refine pk_val rfl rfl rfl (val_move rfl rfl) ?_
  refine pk_val rfl rfl rfl (val_move rfl rfl) ?_
  refine pk_eff (eff_call1 rfl ⟨_, Tryz.func153, by kernel_rfl, rfl⟩ rfl (fun E w s => ref27_May_c s)) rfl rfl rfl (fun _ _ => ?_)
  refine pk_val rfl rfl rfl (val_not rfl rfl) ?_
  refine pk_nil ?_
  refine thru_on ?_
  refine pk_ifn rfl (fun h1 => ?_) (fun h1 => ?_)
  · skip
    exfalso
    rw [hm] at h1; cases h1
  · skip
    refine pk_skip ?_
    refine thru_on ?_
    refine pk_seq ?_
    refine pk_region ?_
    refine pk_val rfl rfl rfl (val_move rfl rfl) ?_
    refine pk_val rfl rfl rfl (val_move rfl rfl) ?_
    refine pk_val rfl rfl rfl (val_move rfl rfl) ?_
    refine pk_eff (eff_make1 (z := .bool false) (zc := .bool false) (bytes := 1) (l := b) (c := b) rfl Tryz.underlying244 (by kernel_rfl) rfl rfl rfl rfl rfl (Nat.le_refl _) (by omega) (by omega)) rfl rfl rfl (fun b13 _ => ?_)
    refine pk_val rfl rfl rfl (val_build (z := [.int .i64 0, .int .i64 0, .slice none 0 0]) [(0, 1), (1, 1), (2, 1)] rfl Tryz.underlying246 (by kernel_rfl) (by kernel_rfl) rfl rfl rfl) ?_
    refine pk_eff (eff_box rfl rfl rfl) rfl rfl rfl (fun b15 _ => ?_)
    refine pk_val rfl rfl rfl (val_assign rfl rfl) ?_
    refine pk_val rfl rfl rfl (val_assign rfl rfl) ?_
    refine pk_nil ?_
    refine thru_on ?_
    refine pk_ret ?_
    refine ret2 rfl rfl rfl fun w s => ⟨(b15, b13), trivial, rfl, s.to fun _ h => rf_shut ?_⟩
    have h1 := (h)
    simp only [rfP, Rf.box, List.length_replicate, List.map_replicate]
    exact h1
theorem ref27_New_no {E w : World} {L : List Ch} {b h : Int} (s : Sat E w L) (hm : mayF b h = false) : Calls Tryz.prog 69 #[.int .i64 b, .int .i64 h] w (Gives E (.tuple #[.pointer none, .int .i64 1]) L) := by
  refine enter (vs := [_, _]) Tryz.func69 rfl Tryz.ntmps69 rfl s ?_
  refine pk_seq ?_
  refine pk_region ?_
  refine pk_val rfl rfl rfl (val_assign rfl rfl) ?_
  refine pk_val rfl rfl rfl (val_assign rfl rfl) ?_
  refine pk_nil ?_
  refine thru_on ?_
  refine pk_seq ?_
  refine pk_seq ?_
  refine pk_region ?_
  refine pk_val rfl rfl rfl (val_move rfl rfl) ?_
  refine pk_val rfl rfl rfl (val_move rfl rfl) ?_
  refine pk_eff (eff_call1 rfl ⟨_, Tryz.func153, by kernel_rfl, rfl⟩ rfl (fun E w s => ref27_May_c s)) rfl rfl rfl (fun _ _ => ?_)
  refine pk_val rfl rfl rfl (val_not rfl rfl) ?_
  refine pk_nil ?_
  refine thru_on ?_
  refine pk_ifn rfl (fun h1 => ?_) (fun h1 => ?_)
  · skip
    refine pk_seq ?_
    refine pk_region ?_
    refine pk_val rfl rfl rfl (val_assign rfl rfl) ?_
    refine pk_val rfl rfl rfl (val_assign rfl rfl) ?_
    refine pk_nil ?_
    refine thru_on ?_
    refine pk_ret ?_
    refine thru_ret ?_
    refine ret2 rfl rfl rfl fun w s => ⟨rfl, s⟩
  · skip
    exfalso
    rw [hm] at h1; cases h1
theorem ref27_Places_c {E w : World} {L : List Ch} {b h : Nat} {t : ByteArray} (s : Sat E w L) (hm : mayF b h = true) (ht : t.size ≤ 4611686018427387904) :
    Calls Tryz.prog 155 #[.string t, .int .i64 (b : Nat), .int .i64 (h : Nat)] w (GivesX E (fun q : Option Addr × Nat => .tuple #[.slice q.1 h q.2, .int .i64 0]) (fun q => own q.1 h q.2 3 1 ((plN t b h).map pV) :: L) (fun _ => True)) := by
  have hhl := hashN_lt t
  have hat : (hashB t).fdiv (2 ^ (min (32 : Int).toNat IntKind.u64.bits)) = ((hashN t / 4294967296 : Nat) : Int) := by
    rw [← hashN_eq, Int.fdiv_eq_ediv_of_nonneg _ (by decide)]; rfl
  have hst : IntKind.u64.wrap ((BitVec.ofInt IntKind.u64.bits (hashB t) &&& BitVec.ofInt IntKind.u64.bits 4294967295).toNat : Int) = ((hashN t % 4294967296 : Nat) : Int) := by
    rw [← hashN_eq]
    have e : (BitVec.ofInt IntKind.u64.bits ((hashN t : Nat) : Int) &&& BitVec.ofInt IntKind.u64.bits 4294967295).toNat = hashN t % 4294967296 := by
      rw [← Nat.and_two_pow_sub_one_eq_mod (hashN t) 32]
      exact bv_and (n := IntKind.u64.bits) (b := 4294967295) hhl (by decide)
    rw [e, wrap_u64 (by omega)]
  refine enter (vs := [_, _, _]) Tryz.func155 rfl Tryz.ntmps155 rfl s ?_
  have hmm := (mayF_iff _ _).1 hm
  have hb0 : 0 < b := by omega
  refine pk_seq ?_
  refine pk_region ?_
  refine pk_val rfl rfl rfl (val_assign rfl rfl) ?_
  refine pk_val rfl rfl rfl (val_assign rfl rfl) ?_
  refine pk_nil ?_
  refine thru_on ?_
  refine pk_seq ?_
  refine pk_seq ?_
  refine pk_region ?_
  refine pk_val rfl rfl rfl (val_move rfl rfl) ?_
  refine pk_val rfl rfl rfl (val_move rfl rfl) ?_
  refine pk_eff (eff_call1 rfl ⟨_, Tryz.func153, by kernel_rfl, rfl⟩ rfl (fun E w s => ref27_May_c s)) rfl rfl rfl (fun _ _ => ?_)
  refine pk_val rfl rfl rfl (val_not rfl rfl) ?_
  refine pk_nil ?_
  refine thru_on ?_
  refine pk_ifn rfl (fun hm1 => ?_) (fun hm1 => ?_)
  · skip
    exfalso
    rw [hm] at hm1; cases hm1
  · skip
    refine pk_skip ?_
    refine thru_on ?_
    refine Pk.nilrow 3 1 ?_
    refine pk_seq ?_
    refine pk_region ?_
    refine pk_val rfl rfl rfl (val_move rfl rfl) ?_
    refine pk_eff (eff_call1 rfl ⟨_, Tryz.func165, by kernel_rfl, rfl⟩ rfl (fun E w s => ref01_Hash_c s ht)) rfl rfl rfl (fun _ _ => ?_)
    refine pk_val rfl rfl rfl (val_assign rfl rfl) ?_
    refine pk_nil ?_
    refine thru_on ?_
    refine pk_seq ?_
    refine pk_region ?_
    refine pk_val rfl rfl rfl (val_assign rfl rfl) ?_
    refine pk_nil ?_
    refine thru_on ?_
    refine pk_seq ?_
    refine pk_seq ?_
    refine pk_region ?_
    refine pk_val rfl rfl rfl (val_assign rfl rfl) ?_
    refine pk_nil ?_
    refine thru_on ?_
    refine pk_block ?_
    refine pk_loop (α := Nat × Option Addr × Nat) ((0, none, 0)) (fun y => [(1, .int .i64 (b : Nat)), (2, .int .i64 (h : Nat)), (8, .int .u64 (hashB t)), (9, .slice y.2.1 y.1 y.2.2), (10, .int .u64 (y.1 : Nat))]) (fun y => (own y.2.1 y.1 y.2.2 3 1 ((plN t b y.1).map pV)) :: L) (fun y => y.1 ≤ h) (fun y => h - y.1) ?_ ?_ ?_ ?_
    · (try dsimp only) <;> exact Nat.zero_le _
    · exact ⟨(Sub.cons rfl (by first | rfl | (congr 1; omega) | simp) (Sub.cons rfl (by first | rfl | (congr 1; omega) | simp) (Sub.cons rfl (by first | rfl | (congr 1; omega) | simp) (Sub.cons rfl (by first | rfl | (congr 1; omega) | simp) (Sub.cons rfl (by first | rfl | (congr 1; omega) | simp) (Sub.nil _)))))), rfl⟩
    · exact (fun _ h => h)
    rintro ⟨k, q, d⟩ hk0
    dsimp only at hk0 ⊢
    refine pk_seq ?_
    refine pk_seq ?_
    refine pk_region ?_
    refine pk_val rfl rfl rfl (val_move rfl rfl) ?_
    refine pk_val rfl rfl rfl (val_move rfl rfl) ?_
    refine pk_val rfl rfl rfl (val_conv_fit rfl Tryz.underlying3 Tryz.underlying22 rfl (by simp [IntKind.wrap, IntKind.bits, IntKind.signed]; omega)) ?_
    refine pk_val rfl rfl rfl (val_lss rfl rfl rfl) ?_
    refine pk_nil ?_
    refine thru_on ?_
    refine pk_if rfl (fun h1 => ?_) (fun h1 => ?_)
    · skip
      refine pk_skip ?_
      refine thru_on ?_
      have hk : k < h := by omega
      have hkm : k * (hashN t % 4294967296) ≤ 16 * 4294967296 := Nat.mul_le_mul (by omega) (by omega)
      refine pk_seq ?_
      refine pk_block ?_
      refine pk_region ?_
      refine pk_val rfl rfl rfl (val_move rfl rfl) ?_
      refine pk_val rfl rfl rfl (val_move rfl rfl) ?_
      refine pk_val rfl rfl rfl (val_shrw rfl rfl rfl (by omega)) ?_
      refine Pk.slot 25 (v := .int .u64 (hashN t / 4294967296 : Nat)) rfl (by rw [hat]) ?_
      refine pk_val rfl rfl rfl (val_move rfl rfl) ?_
      refine pk_val rfl rfl rfl (val_move rfl rfl) ?_
      refine pk_val rfl rfl rfl (val_andw rfl rfl rfl) ?_
      refine Pk.slot 28 (v := .int .u64 (hashN t % 4294967296 : Nat)) rfl (by rw [hst]) ?_
      refine pk_val rfl rfl rfl (val_mulw rfl rfl rfl) ?_
      refine Pk.slot 29 (v := .int .u64 (k * (hashN t % 4294967296) : Nat)) rfl (by congr 1; rw [← Int.natCast_mul, wrap_u64 (by omega)]) ?_
      refine pk_val rfl rfl rfl (val_addw rfl rfl rfl) ?_
      refine Pk.slot 30 (v := .int .u64 (hashN t / 4294967296 + k * (hashN t % 4294967296) : Nat)) rfl (by congr 1; rw [← Int.natCast_add, wrap_u64 (by omega)]) ?_
      refine pk_val rfl rfl rfl (val_move rfl rfl) ?_
      refine pk_val rfl rfl rfl (val_conv_fit rfl Tryz.underlying3 Tryz.underlying22 rfl (by simp [IntKind.wrap, IntKind.bits, IntKind.signed]; omega)) ?_
      refine pk_val rfl rfl rfl (val_rem (a := (hashN t / 4294967296 + k * (hashN t % 4294967296) : Nat)) rfl rfl rfl (by omega) (by omega)) ?_
      refine Pk.slot 33 (v := .int .u64 (plI t b k : Nat)) rfl (by rw [← Int.natCast_emod]; rfl) ?_
      refine pk_val rfl rfl rfl (val_conv_fit rfl Tryz.underlying22 Tryz.underlying3 rfl (by have := plI_lt t k hb0; simp [IntKind.wrap, IntKind.bits, IntKind.signed]; omega)) ?_
      refine pk_eff (eff_buildSlice (len := 1) (sz := 1) (z := #[.int .i64 0]) rfl Tryz.underlying241 (by kernel_rfl) rfl rfl rfl (by decide) (by decide) rfl rfl) rfl rfl rfl (fun b35 _ => ?_)
      refine pk_eff (eff_append1 (sz := 1) (bytes := 8) (z := .int .i64 0) 1 rfl Tryz.underlying241 (by kernel_rfl) rfl (by decide) (by decide) rfl rfl rfl (Ent.own 0 rfl) (by rw [List.length_map, plN_len, Nat.mul_one]) rfl rfl (by omega)) rfl rfl rfl (fun q36 _ => ?_)
      refine pk_val rfl rfl rfl (val_assign rfl rfl) ?_
      refine pk_nil ?_
      refine in_on ?_
      refine thru_on ?_
      refine pk_region ?_
      refine pk_val rfl rfl rfl (val_move rfl rfl) ?_
      refine pk_val rfl rfl rfl (val_addw rfl rfl rfl) ?_
      refine pk_val rfl rfl rfl (val_assign rfl rfl) ?_
      refine pk_nil ?_
      refine thru_on ?_
      refine pk_next (x := ⟨k, q, d⟩) ((k + 1, q36.1, q36.2)) ?_ ?_ ?_ ?_
      · (try dsimp only) <;> exact hk
      · (try dsimp only); exact (by omega)
      · exact ⟨(Sub.cons rfl (by first | rfl | (congr 1; omega) | simp) (Sub.cons rfl (by first | rfl | (congr 1; omega) | simp) (Sub.cons rfl (by first | rfl | (congr 1; omega) | simp) (Sub.cons rfl (by first | rfl | (congr 1; omega) | simp) (Sub.cons rfl (by (try dsimp only); congr 1; rw [wrap_u64 (by omega)]; omega) (Sub.nil _)))))), rfl⟩
      · exact (fun _ h => by (try dsimp only); rw [plN_succ, List.map_append]; exact (Sats.keep [false, true] h))
    · skip
      refine pk_exit ?_
      refine thru ?_
      refine thru ?_
      refine pk_here ?_
      refine thru_on ?_
      refine pk_seq ?_
      refine pk_region ?_
      refine pk_val rfl rfl rfl (val_move rfl rfl) ?_
      refine pk_val rfl rfl rfl (val_assign rfl rfl) ?_
      refine pk_val rfl rfl rfl (val_assign rfl rfl) ?_
      refine pk_nil ?_
      refine thru_on ?_
      refine pk_ret ?_
      have hkk : k = h := by omega
      subst hkk
      refine ret2 rfl rfl rfl fun w s => ⟨(q, d), trivial, rfl, s.to (fun _ h => h)⟩
end Go.Proofs.YtdpckendkklfdaaGreat
