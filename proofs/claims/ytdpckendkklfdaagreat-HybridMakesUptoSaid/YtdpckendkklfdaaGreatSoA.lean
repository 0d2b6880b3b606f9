/- The walks of the sort: IDs, at most twelve; strings by the shelf's contract. -/
import Derived.Test.YtdpckendkklfdaaGreatStA
import Derived.Test.YtdpckendkklfdaaGreatEngP
import Derived.Test.YtdpckendkklfdaaGreatShelf
set_option linter.unusedVariables false
set_option linter.unusedSimpArgs false
set_option maxRecDepth 100000
namespace Go.Proofs.YtdpckendkklfdaaGreat
open Go.RowKit Go.Proofs.Eng
theorem bits_Len_c {E w : World} {L : List Ch} {x : Int} (s : Sat E w L) (h0 : 0 ≤ x) (h1 : x ≤ 18446744073709551615) : Calls Tryz.prog 160 #[.int .u64 x] w (GivesX E (fun k : Int => .int .i64 k) (fun _ => L) (fun k => k = (Lib.bitLen x.toNat : Nat))) :=
  (Go.Proofs.Tryz.bits_Len x w h0 h1).mono fun e w' ⟨he, hw⟩ => ⟨_, rfl, he, by rw [hw]; exact s⟩
open Go.Sort
theorem ins_ID_c {q : Option Addr} {n c a b : Nat} {E w : World} {L : List Ch} {d : Array Int} (s : Sat E w (own q n c 23 1 (d.toList.map (Value.int .u64)) :: L)) (hn : d.size = n) (hb : b ≤ n) (hn2 : n ≤ 4611686018427387904) (hab : a ≤ b) :
    Calls Tryz.prog 206 #[.slice q n c, .int .i64 (a : Nat), .int .i64 (b : Nat)] w (Gives E (.tuple #[]) (own q n c 23 1 ((insertionSort (fun x y : Int => decide (x < y)) d a b).toList.map (Value.int .u64)) :: L)) := by
  refine enter (vs := [_, _, _]) Tryz.func206 rfl Tryz.ntmps206 rfl s ?_
  obtain ⟨D, hD⟩ : ∃ D, D = insertionSort (fun x y : Int => decide (x < y)) d a b := ⟨_, rfl⟩
  rw [← hD]
  refine pk_seq ?_
  refine pk_region ?_
  refine pk_val rfl rfl rfl (val_move rfl rfl) ?_
  refine pk_val rfl rfl rfl (val_add rfl rfl rfl (by omega)) ?_
  refine pk_val rfl rfl rfl (val_assign rfl rfl) ?_
  refine pk_nil ?_
  refine thru_on ?_
  refine pk_block ?_
  refine pk_loop (α := Nat × Array Int) ((a + 1, d)) (fun y => [(0, .slice q n c), (1, .int .i64 (a : Nat)), (2, .int .i64 (b : Nat)), (6, .int .i64 (y.1 : Nat))]) (fun y => (own q n c 23 1 (y.2.toList.map (Value.int .u64))) :: L) (fun y => y.2.size = n ∧ a < y.1 ∧ insOuter (fun x y : Int => decide (x < y)) a b y.1 y.2 = D) (fun y => b - y.1) ?_ ?_ ?_ ?_
  · (try dsimp only) <;> exact ⟨hn, Nat.lt_succ_self a, hD.symm⟩
  · exact ⟨(Sub.cons rfl (by first | rfl | (congr 1; omega) | simp) (Sub.cons rfl (by first | rfl | (congr 1; omega) | simp) (Sub.cons rfl (by first | rfl | (congr 1; omega) | simp) (Sub.cons rfl (by first | rfl | (congr 1; omega) | simp) (Sub.nil _))))), rfl⟩
  · exact (fun _ h => h)
  rintro ⟨i, d1⟩ ⟨hs1, hai, hI⟩
  dsimp only at hs1 hai hI ⊢
  refine pk_seq ?_
  refine pk_seq ?_
  refine pk_region ?_
  refine pk_val rfl rfl rfl (val_move rfl rfl) ?_
  refine pk_val rfl rfl rfl (val_move rfl rfl) ?_
  refine pk_val rfl rfl rfl (val_lss rfl rfl rfl) ?_
  refine pk_nil ?_
  refine thru_on ?_
  refine pk_if rfl (fun h => ?_) (fun h => ?_)
  · skip
    refine pk_skip ?_
    refine thru_on ?_
    have hib : i < b := by omega
    rw [insO_go hib] at hI
    refine pk_seq ?_
    refine pk_block ?_
    refine pk_seq ?_
    refine pk_region ?_
    refine pk_val rfl rfl rfl (val_move rfl rfl) ?_
    refine pk_val rfl rfl rfl (val_assign rfl rfl) ?_
    refine pk_nil ?_
    refine thru_on ?_
    refine pk_block ?_
    refine pk_loop (α := Nat × Array Int) ((i, d1)) (fun y => [(0, .slice q n c), (1, .int .i64 (a : Nat)), (2, .int .i64 (b : Nat)), (6, .int .i64 (i : Nat)), (7, .int .i64 (y.1 : Nat))]) (fun y => (own q n c 23 1 (y.2.toList.map (Value.int .u64))) :: L) (fun y => y.2.size = n ∧ y.1 ≤ i ∧ insInner (fun x y : Int => decide (x < y)) a y.1 y.2 = insInner (fun x y : Int => decide (x < y)) a i d1) (fun y => y.1) ?_ ?_ ?_ ?_
    · (try dsimp only) <;> exact ⟨hs1, Nat.le_refl _, rfl⟩
    · exact ⟨(Sub.cons rfl (by first | rfl | (congr 1; omega) | simp) (Sub.cons rfl (by first | rfl | (congr 1; omega) | simp) (Sub.cons rfl (by first | rfl | (congr 1; omega) | simp) (Sub.cons rfl (by first | rfl | (congr 1; omega) | simp) (Sub.cons rfl (by first | rfl | (congr 1; omega) | simp) (Sub.nil _)))))), rfl⟩
    · exact (fun _ h => h)
    rintro ⟨j, e⟩ ⟨hs2, hji, hJ⟩
    dsimp only at hs2 hji hJ ⊢
    refine pk_seq ?_
    refine pk_seq ?_
    refine pk_drawk (.val 0 (.val 1 (.val 2 (.val 3 (.val 4 (.val 5 (.val 6 (.val 7 (.val 8 (.val 9 (.val 10 (.val 11 (.val 12 (.eff 13 (.val 14 .nil))))))))))))))) 1015 [] rfl (by kernel_rfl) (fun _ _ _ _ _ h => h) ?_
    refine ord_val rfl rfl rfl rfl (fun _ h => h) (val_move rfl rfl) ?_
    refine ord_val rfl rfl rfl rfl (fun _ h => h) (val_move rfl rfl) ?_
    refine ord_val rfl rfl rfl rfl (fun _ h => h) (val_gtr rfl rfl rfl) ?_
    refine ord_val rfl rfl rfl rfl (fun _ h => h) (val_move rfl rfl) ?_
    by_cases hj : a < j
    · skip
      refine Pk.slot 19 (v := .bool true) rfl (congrArg Value.bool (decide_eq_true (by omega))) ?_
      refine Pk.tells ((Ent.own 0 rfl).some_of (by rw [List.length_map, Array.length_toList]; omega)) fun hA => ?_
      refine ord_val_yes rfl rfl rfl rfl rfl rfl (fun _ h => h) (val_move rfl rfl) ?_
      refine ord_val_yes rfl rfl rfl rfl rfl rfl (fun _ h => h) (val_move rfl rfl) ?_
      refine ord_val_yes rfl rfl rfl rfl rfl rfl (fun _ h => h) (val_indexAddr rfl Tryz.underlying54 1 (by kernel_rfl) rfl rfl (j) rfl (by omega) (Ent.pure hA)) ?_
      refine ord_val_yes rfl rfl rfl rfl rfl rfl (fun _ h => h) (val_load rfl Tryz.underlying23 rfl rfl ((Ent.own 0 rfl).rd (get_arr (d := e) (k := j) (by omega)))) ?_
      refine ord_val_yes rfl rfl rfl rfl rfl rfl (fun _ h => h) (val_move rfl rfl) ?_
      refine ord_val_yes rfl rfl rfl rfl rfl rfl (fun _ h => h) (val_move rfl rfl) ?_
      refine ord_val_yes rfl rfl rfl rfl rfl rfl (fun _ h => h) (val_sub rfl rfl rfl (by omega)) ?_
      refine ord_val_yes rfl rfl rfl rfl rfl rfl (fun _ h => h) (val_indexAddr rfl Tryz.underlying54 1 (by kernel_rfl) rfl rfl (j - 1) (by omega) (by omega) (Ent.pure hA)) ?_
      refine ord_val_yes rfl rfl rfl rfl rfl rfl (fun _ h => h) (val_load rfl Tryz.underlying23 rfl rfl ((Ent.own 0 rfl).rd (get_arr (d := e) (k := j - 1) (by omega)))) ?_
      refine ord_eff_yes (eff_call1 rfl ⟨_, Tryz.func212, by kernel_rfl, rfl⟩ rfl (fun E w s => cmp_Less_ID_c s)) rfl rfl rfl rfl rfl rfl (.inr fun _ _ => (fun _ h => h)) (fun _ _ => ?_)
      refine ord_val rfl rfl rfl rfl (fun _ h => h) (val_pick rfl rfl rfl rfl) ?_
      refine ord_nil ?_
      refine thru_on ?_
      refine pk_ifb rfl (fun h3 => ?_) (fun h3 => ?_)
      · skip
        refine pk_skip ?_
        refine thru_on ?_
        have hgo := insI_go (lt := (fun x y : Int => decide (x < y))) hj h3
        refine pk_seq ?_
        refine pk_block ?_
        refine pk_drawk (.val 0 (.val 1 (.val 2 (.val 3 (.val 4 (.val 5 (.val 6 (.val 7 (.val 8 (.val 10 (.val 11 (.val 12 (.two 9 (.eff 13 (.val 14 (.eff 15 (.val 16 (.eff 17 .nil))))) 13 (.eff 9 (.val 14 (.eff 15 (.val 16 (.eff 17 .nil)))))))))))))))))) 17 [false] rfl (by kernel_rfl) (fun _ _ _ _ _ h => h) ?_
        refine ord_val rfl rfl rfl rfl (fun _ h => (Sats.keep [false] h :)) (val_move rfl rfl) ?_
        refine ord_val rfl rfl rfl rfl (fun _ h => (Sats.keep [false] h :)) (val_move rfl rfl) ?_
        refine ord_val rfl rfl rfl rfl (fun _ h => (Sats.keep [false] h :)) (val_move rfl rfl) ?_
        refine ord_val rfl rfl rfl rfl (fun _ h => (Sats.keep [false] h :)) (val_move rfl rfl) ?_
        refine ord_val rfl rfl rfl rfl (fun _ h => (Sats.keep [false] h :)) (val_sub rfl rfl rfl (by omega)) ?_
        refine ord_val rfl rfl rfl rfl (fun _ h => (Sats.keep [false] h :)) (val_move rfl rfl) ?_
        refine ord_val rfl rfl rfl rfl (fun _ h => (Sats.keep [false] h :)) (val_move rfl rfl) ?_
        refine ord_val rfl rfl rfl rfl (fun _ h => (Sats.keep [false] h :)) (val_sub rfl rfl rfl (by omega)) ?_
        refine ord_val rfl rfl rfl rfl (fun _ h => (Sats.keep [false] h :)) (val_indexAddr rfl Tryz.underlying54 1 (by kernel_rfl) rfl rfl (j - 1) (by omega) (by omega) (Ent.pure hA)) ?_
        refine ord_val rfl rfl rfl rfl (fun _ h => (Sats.keep [false] h :)) (val_move rfl rfl) ?_
        refine ord_val rfl rfl rfl rfl (fun _ h => (Sats.keep [false] h :)) (val_move rfl rfl) ?_
        refine ord_val rfl rfl rfl rfl (fun _ h => (Sats.keep [false] h :)) (val_indexAddr rfl Tryz.underlying54 1 (by kernel_rfl) rfl rfl (j) rfl (by omega) (Ent.pure hA)) ?_
        refine ord_two ?_ ?_
        · skip
          refine ord_eff (eff_val (val_load rfl Tryz.underlying23 rfl rfl ((Ent.own 0 rfl).rd (get_arr (d := e) (k := j - 1) (by omega))))) rfl rfl rfl rfl (.inr fun _ _ => (fun _ h => (Sats.keep [false] h :))) (fun _ _ => ?_)
          refine ord_eff (eff_val (val_load rfl Tryz.underlying23 rfl rfl ((Ent.own 0 rfl).rd (get_arr (d := e) (k := j) (by omega))))) rfl rfl rfl rfl (.inr fun _ _ => (fun _ h => (Sats.keep [false] h :))) (fun _ _ => ?_)
          refine ord_val rfl rfl rfl rfl (fun _ h => (Sats.keep [false] h :)) (val_indexAddr rfl Tryz.underlying54 1 (by kernel_rfl) rfl rfl (j) rfl (by omega) (Ent.pure hA)) ?_
          refine ord_eff0 (eff_store (vs := [(Value.int .u64) e[j - 1]!]) 0 rfl rfl rfl rfl rfl (by kernel_rfl) rfl (by simp only [List.length_map, Array.length_toList, List.length_singleton]; omega) (Nat.zero_lt_one)) rfl rfl rfl (.inr fun _ _ => (fun _ h => (Sats.keep [false] h :))) (fun _ _ => ?_)
          refine ord_val rfl rfl rfl rfl (fun _ h => (Sats.keep [false] h :)) (val_indexAddr rfl Tryz.underlying54 1 (by kernel_rfl) rfl rfl (j - 1) (by omega) (by omega) (Ent.pure hA)) ?_
          refine ord_eff0 (eff_store (vs := [(Value.int .u64) e[j]!]) 0 rfl rfl rfl rfl rfl (by kernel_rfl) rfl (by rw [splice_length (by simp only [List.length_map, Array.length_toList, List.length_singleton]; omega)]; simp only [List.length_map, Array.length_toList, List.length_singleton]; omega) (Nat.zero_lt_one)) rfl rfl rfl (.inl rfl) (fun _ _ => ?_)
          refine ord_nil ?_
          refine in_on ?_
          refine thru_on ?_
          refine pk_region ?_
          refine pk_val rfl rfl rfl (val_move rfl rfl) ?_
          refine pk_val rfl rfl rfl (val_sub rfl rfl rfl (by omega)) ?_
          refine pk_val rfl rfl rfl (val_assign rfl rfl) ?_
          refine pk_nil ?_
          refine thru_on ?_
          refine pk_next (x := ⟨j, e⟩) ((j - 1, swp e j (j - 1))) ?_ ?_ ?_ ?_
          · (try dsimp only) <;> exact ⟨by rw [swp_sz]; exact hs2, by omega, by rw [← hgo]; exact hJ⟩
          · (try dsimp only); exact (by omega)
          · exact ⟨(Sub.cons rfl (by first | rfl | (congr 1; omega) | simp) (Sub.cons rfl (by first | rfl | (congr 1; omega) | simp) (Sub.cons rfl (by first | rfl | (congr 1; omega) | simp) (Sub.cons rfl (by first | rfl | (congr 1; omega) | simp) (Sub.cons rfl (by first | rfl | (congr 1; omega) | simp) (Sub.nil _)))))), rfl⟩
          · exact (fun _ h => by rw [← swp_map (show j < e.size by omega) (show j - 1 < e.size by omega)]; exact (h))
        · skip
          refine ord_eff (eff_val (val_load rfl Tryz.underlying23 rfl rfl ((Ent.own 0 rfl).rd (get_arr (d := e) (k := j) (by omega))))) rfl rfl rfl rfl (.inr fun _ _ => (fun _ h => (Sats.keep [false] h :))) (fun _ _ => ?_)
          refine ord_eff (eff_val (val_load rfl Tryz.underlying23 rfl rfl ((Ent.own 0 rfl).rd (get_arr (d := e) (k := j - 1) (by omega))))) rfl rfl rfl rfl (.inr fun _ _ => (fun _ h => (Sats.keep [false] h :))) (fun _ _ => ?_)
          refine ord_val rfl rfl rfl rfl (fun _ h => (Sats.keep [false] h :)) (val_indexAddr rfl Tryz.underlying54 1 (by kernel_rfl) rfl rfl (j) rfl (by omega) (Ent.pure hA)) ?_
          refine ord_eff0 (eff_store (vs := [(Value.int .u64) e[j - 1]!]) 0 rfl rfl rfl rfl rfl (by kernel_rfl) rfl (by simp only [List.length_map, Array.length_toList, List.length_singleton]; omega) (Nat.zero_lt_one)) rfl rfl rfl (.inr fun _ _ => (fun _ h => (Sats.keep [false] h :))) (fun _ _ => ?_)
          refine ord_val rfl rfl rfl rfl (fun _ h => (Sats.keep [false] h :)) (val_indexAddr rfl Tryz.underlying54 1 (by kernel_rfl) rfl rfl (j - 1) (by omega) (by omega) (Ent.pure hA)) ?_
          refine ord_eff0 (eff_store (vs := [(Value.int .u64) e[j]!]) 0 rfl rfl rfl rfl rfl (by kernel_rfl) rfl (by rw [splice_length (by simp only [List.length_map, Array.length_toList, List.length_singleton]; omega)]; simp only [List.length_map, Array.length_toList, List.length_singleton]; omega) (Nat.zero_lt_one)) rfl rfl rfl (.inl rfl) (fun _ _ => ?_)
          refine ord_nil ?_
          refine in_on ?_
          refine thru_on ?_
          refine pk_region ?_
          refine pk_val rfl rfl rfl (val_move rfl rfl) ?_
          refine pk_val rfl rfl rfl (val_sub rfl rfl rfl (by omega)) ?_
          refine pk_val rfl rfl rfl (val_assign rfl rfl) ?_
          refine pk_nil ?_
          refine thru_on ?_
          refine pk_next (x := ⟨j, e⟩) ((j - 1, swp e j (j - 1))) ?_ ?_ ?_ ?_
          · (try dsimp only) <;> exact ⟨by rw [swp_sz]; exact hs2, by omega, by rw [← hgo]; exact hJ⟩
          · (try dsimp only); exact (by omega)
          · exact ⟨(Sub.cons rfl (by first | rfl | (congr 1; omega) | simp) (Sub.cons rfl (by first | rfl | (congr 1; omega) | simp) (Sub.cons rfl (by first | rfl | (congr 1; omega) | simp) (Sub.cons rfl (by first | rfl | (congr 1; omega) | simp) (Sub.cons rfl (by first | rfl | (congr 1; omega) | simp) (Sub.nil _)))))), rfl⟩
          · exact (fun _ h => by rw [← swp_map (show j < e.size by omega) (show j - 1 < e.size by omega)]; exact (h))
      · skip
        have hst := insI_stop (lt := (fun x y : Int => decide (x < y))) (a := a) (j := j) (d := e) (.inr h3)
        rw [hst] at hJ
        refine pk_exit ?_
        refine thru ?_
        refine thru ?_
        refine pk_here ?_
        refine in_on ?_
        refine thru_on ?_
        refine pk_region ?_
        refine pk_val rfl rfl rfl (val_move rfl rfl) ?_
        refine pk_val rfl rfl rfl (val_add rfl rfl rfl (by omega)) ?_
        refine pk_val rfl rfl rfl (val_assign rfl rfl) ?_
        refine pk_nil ?_
        refine thru_on ?_
        refine pk_next (x := ⟨i, d1⟩) ((i + 1, e)) ?_ ?_ ?_ ?_
        · (try dsimp only) <;> exact ⟨hs2, by omega, by rw [hJ]; exact hI⟩
        · (try dsimp only); exact (by omega)
        · exact ⟨(Sub.cons rfl (by first | rfl | (congr 1; omega) | simp) (Sub.cons rfl (by first | rfl | (congr 1; omega) | simp) (Sub.cons rfl (by first | rfl | (congr 1; omega) | simp) (Sub.cons rfl (by first | rfl | (congr 1; omega) | simp) (Sub.nil _))))), rfl⟩
        · exact (fun _ h => h)
    · skip
      refine Pk.slot 19 (v := .bool false) rfl (congrArg Value.bool (decide_eq_false (by omega))) ?_
      have hst := insI_stop (lt := (fun x y : Int => decide (x < y))) (a := a) (j := j) (d := e) (.inl hj)
      rw [hst] at hJ
      refine ord_val_no rfl rfl rfl rfl rfl rfl rfl (fun _ h => h) ?_
      refine ord_val_no rfl rfl rfl rfl rfl rfl rfl (fun _ h => h) ?_
      refine ord_val_no rfl rfl rfl rfl rfl rfl rfl (fun _ h => h) ?_
      refine ord_val_no rfl rfl rfl rfl rfl rfl rfl (fun _ h => h) ?_
      refine ord_val_no rfl rfl rfl rfl rfl rfl rfl (fun _ h => h) ?_
      refine ord_val_no rfl rfl rfl rfl rfl rfl rfl (fun _ h => h) ?_
      refine ord_val_no rfl rfl rfl rfl rfl rfl rfl (fun _ h => h) ?_
      refine ord_val_no rfl rfl rfl rfl rfl rfl rfl (fun _ h => h) ?_
      refine ord_val_no rfl rfl rfl rfl rfl rfl rfl (fun _ h => h) ?_
      refine ord_eff_no rfl rfl rfl rfl rfl rfl rfl (fun _ h => h) ?_
      refine ord_val rfl rfl rfl rfl (fun _ h => h) (val_pick rfl rfl rfl rfl) ?_
      refine ord_nil ?_
      refine thru_on ?_
      refine pk_cond_f rfl ?_
      refine pk_exit ?_
      refine thru ?_
      refine thru ?_
      refine pk_here ?_
      refine in_on ?_
      refine thru_on ?_
      refine pk_region ?_
      refine pk_val rfl rfl rfl (val_move rfl rfl) ?_
      refine pk_val rfl rfl rfl (val_add rfl rfl rfl (by omega)) ?_
      refine pk_val rfl rfl rfl (val_assign rfl rfl) ?_
      refine pk_nil ?_
      refine thru_on ?_
      refine pk_next (x := ⟨i, d1⟩) ((i + 1, e)) ?_ ?_ ?_ ?_
      · (try dsimp only) <;> exact ⟨hs2, by omega, by rw [hJ]; exact hI⟩
      · (try dsimp only); exact (by omega)
      · exact ⟨(Sub.cons rfl (by first | rfl | (congr 1; omega) | simp) (Sub.cons rfl (by first | rfl | (congr 1; omega) | simp) (Sub.cons rfl (by first | rfl | (congr 1; omega) | simp) (Sub.cons rfl (by first | rfl | (congr 1; omega) | simp) (Sub.nil _))))), rfl⟩
      · exact (fun _ h => h)
  · skip
    refine pk_exit ?_
    refine thru ?_
    refine thru ?_
    refine pk_here ?_
    have e0 := insO_stop (lt := (fun x y : Int => decide (x < y))) (a := a) (d := d1) (show ¬ i < b by omega)
    rw [e0] at hI
    subst hI
    refine end0 rfl fun w s => ⟨rfl, s⟩
theorem pdq_small_ID_c {q : Option Addr} {n c : Nat} {k : Int} {E w : World} {L : List Ch} {d : Array Int} (s : Sat E w (own q n c 23 1 (d.toList.map (Value.int .u64)) :: L)) (hn : d.size = n) (h12 : n ≤ 12) :
    Calls Tryz.prog 159 #[.slice q n c, .int .i64 0, .int .i64 (n : Nat), .int .i64 k] w (Gives E (.tuple #[]) (own q n c 23 1 ((insertionSort (fun x y : Int => decide (x < y)) d 0 n).toList.map (Value.int .u64)) :: L)) := by
  refine enter (vs := [_, _, _, _]) Tryz.func159 rfl Tryz.ntmps159 rfl s ?_
  have hone : True := trivial
  refine pk_seq ?_
  refine pk_region ?_
  refine pk_val rfl rfl rfl (val_assign rfl rfl) ?_
  refine pk_nil ?_
  refine thru_on ?_
  refine pk_seq ?_
  refine pk_region ?_
  refine pk_val rfl rfl rfl (val_assign rfl rfl) ?_
  refine pk_nil ?_
  refine thru_on ?_
  refine pk_block ?_
  refine pk_loop (α := Unit) (()) (fun y => [(0, .slice q n c), (1, .int .i64 0), (2, .int .i64 (n : Nat)), (3, .int .i64 k)]) (fun y => (own q n c 23 1 (d.toList.map (Value.int .u64))) :: L) (fun y => True) (fun y => 0) ?_ ?_ ?_ ?_
  · (try dsimp only) <;> exact trivial
  · exact ⟨(Sub.cons rfl (by first | rfl | (congr 1; omega) | simp) (Sub.cons rfl (by first | rfl | (congr 1; omega) | simp) (Sub.cons rfl (by first | rfl | (congr 1; omega) | simp) (Sub.cons rfl (by first | rfl | (congr 1; omega) | simp) (Sub.nil _))))), rfl⟩
  · exact (fun _ h => h)
  rintro ⟨⟩ hp
  refine pk_block ?_
  refine pk_seq ?_
  refine pk_region ?_
  refine pk_val rfl rfl rfl (val_move rfl rfl) ?_
  refine pk_val rfl rfl rfl (val_move rfl rfl) ?_
  refine pk_val rfl rfl rfl (val_sub rfl rfl rfl (by omega)) ?_
  refine pk_val rfl rfl rfl (val_assign rfl rfl) ?_
  refine pk_nil ?_
  refine thru_on ?_
  refine pk_seq ?_
  refine pk_seq ?_
  refine pk_region ?_
  refine pk_val rfl rfl rfl (val_move rfl rfl) ?_
  refine pk_val rfl rfl rfl (val_leq rfl rfl rfl) ?_
  refine pk_nil ?_
  refine thru_on ?_
  refine pk_if rfl (fun h => ?_) (fun h => ?_)
  · skip
    refine pk_seq ?_
    refine pk_region ?_
    refine pk_val rfl rfl rfl (val_move rfl rfl) ?_
    refine pk_val rfl rfl rfl (val_move rfl rfl) ?_
    refine pk_val rfl rfl rfl (val_move rfl rfl) ?_
    refine pk_eff (eff_call1 rfl ⟨_, Tryz.func206, by kernel_rfl, rfl⟩ rfl (fun E w s => ins_ID_c (a := 0) s hn (Nat.le_refl _) (by omega) (Nat.zero_le _))) rfl rfl rfl (fun _ _ => ?_)
    refine pk_nil ?_
    refine thru_on ?_
    refine pk_ret ?_
    refine thru_ret ?_
    refine in_ret ?_
    refine thru_ret ?_
    refine in_ret ?_
    refine end0 rfl fun w s => ⟨rfl, s⟩
  · skip
    exfalso; omega
theorem Sort_small_ID_c {q : Option Addr} {n c : Nat} {E w : World} {L : List Ch} {l : List Int} (s : Sat E w (own q n c 23 1 (l.map (Value.int .u64)) :: L)) (hn : l.length = n) (h12 : n ≤ 12) :
    Calls Tryz.prog 76 #[.slice q n c] w (Gives E (.tuple #[]) (own q n c 23 1 ((srtL (fun x y : Int => decide (x < y)) l).map (Value.int .u64)) :: L)) := by
  refine enter (vs := [_]) Tryz.func76 rfl Tryz.ntmps76 rfl s ?_
  refine pk_seq ?_
  refine pk_region ?_
  refine pk_val rfl rfl rfl (val_move rfl rfl) ?_
  refine pk_val rfl rfl rfl (val_len_slice rfl Tryz.underlying54 rfl) ?_
  refine pk_val rfl rfl rfl (val_assign rfl rfl) ?_
  refine pk_nil ?_
  refine thru_on ?_
  refine pk_region ?_
  refine pk_val rfl rfl rfl (val_move rfl rfl) ?_
  refine pk_val rfl rfl rfl (val_move rfl rfl) ?_
  refine pk_val rfl rfl rfl (val_move rfl rfl) ?_
  refine pk_val rfl rfl rfl (val_conv_fit rfl Tryz.underlying3 Tryz.underlying135 rfl (by simp [IntKind.wrap, IntKind.bits, IntKind.signed]; omega)) ?_
  refine pk_eff (eff_callx rfl ⟨_, Tryz.func160, by kernel_rfl, rfl⟩ rfl (fun E w s => bits_Len_c s (by omega) (by omega))) rfl rfl rfl (fun k9 _ => ?_)
  refine pk_eff (eff_call1 rfl ⟨_, Tryz.func159, by kernel_rfl, rfl⟩ rfl (fun E w s => pdq_small_ID_c (d := l.toArray) s (by simpa using hn) h12)) rfl rfl rfl (fun _ _ => ?_)
  refine pk_nil ?_
  refine end0 rfl fun w s => ⟨rfl, s.to fun _ h => ?_⟩
  have e := ins_srtL tot_int l
  rw [← e, hn]; exact h
end Go.Proofs.YtdpckendkklfdaaGreat
