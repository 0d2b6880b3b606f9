/- The walks of law 28, second part: HybridRefuses. -/
import Derived.Test.YtdpckendkklfdaaGreatL28A
set_option linter.unusedVariables false
set_option linter.unusedSimpArgs false
set_option maxRecDepth 100000
namespace Go.Proofs.YtdpckendkklfdaaGreat
open Go.RowKit Go.Proofs.Eng
def rowP (q : Option Addr × Nat) (ps : List (Option Nat)) : Ch := own q.1 ps.length q.2 59 1 (ps.map sp)
theorem rep_succ (B j : Nat) : (List.replicate (j + 1) (some B)).map sp = (List.replicate j (some B)).map sp ++ [ptr (some ⟨B, 0, none⟩) 0] := by
  rw [List.replicate_succ', List.map_append]; rfl
theorem rep_bad (B : Nat) : goodB (List.replicate 65 (some B)) = false := by
  rw [goodB, List.length_replicate]; rfl
theorem l28_HybridRefuses_c {E w : World} {L : List Ch} {A B : Option Addr} {n c d : Nat} {vs : List Sl} {z : Int} (s : Sat E w L) (hV : SlimsIn L B vs) (hl : vs.length ≤ 1099511627776) :
    Calls Tryz.prog 5 #[.slice A n c, .slice B vs.length d, .int .i64 z] w (Gives E (.bool true) L) := by
  refine enter (vs := [_, _, _]) Tryz.func5 rfl Tryz.ntmps5 rfl s ?_
  refine pk_seq ?_
  refine pk_region ?_
  refine pk_val rfl rfl rfl (val_assign rfl rfl) ?_
  refine pk_nil ?_
  refine thru_on ?_
  refine pk_seq ?_
  refine pk_seq ?_
  refine pk_region ?_
  refine pk_eff (eff_call1 rfl ⟨_, Tryz.func13, by kernel_rfl, rfl⟩ rfl (fun E w s => l28_alive_c s)) rfl rfl rfl (fun _ _ => ?_)
  refine pk_val rfl rfl rfl (val_not rfl rfl) ?_
  refine pk_nil ?_
  refine thru_on ?_
  refine pk_ifn rfl (fun h0 => ?_) (fun h0 => ?_)
  · skip
    cases h0
  · skip
    refine pk_skip ?_
    refine thru_on ?_
    refine pk_seq ?_
    refine pk_region ?_
    refine pk_eff (eff_callx rfl ⟨_, Tryz.func25, by kernel_rfl, rfl⟩ rfl (fun E w s => store_New_c s)) rfl rfl rfl (fun q21 hq21 => ?_)
    refine pk_val rfl rfl rfl (val_assign rfl rfl) ?_
    refine pk_nil ?_
    refine thru_on ?_
    refine pk_seq ?_
    refine pk_region ?_
    refine pk_val rfl rfl rfl (val_build (z := [.int .i64 0, .int .i64 0]) [(0, 1), (1, 1)] rfl Tryz.underlying35 (by kernel_rfl) (by kernel_rfl) rfl rfl rfl) ?_
    refine pk_eff (eff_alloc (z := [.int .i64 0, .int .i64 0]) rfl (by kernel_rfl)) rfl rfl rfl (fun b8 _ => ?_)
    refine pk_eff0 (eff_storeW 0 rfl rfl rfl rfl rfl (by kernel_rfl) rfl rfl rfl) rfl rfl (fun _ _ => ?_)
    refine pk_nil ?_
    refine thru_on ?_
    refine pk_seq ?_
    refine pk_region ?_
    refine pk_val rfl rfl rfl (val_assign rfl rfl) ?_
    refine pk_nil ?_
    refine thru_on ?_
    refine pk_cut (α := (Option Addr × Nat) × List (Option Nat)) (fun y => [(0, .slice A n c), (1, .slice B vs.length d), (2, .int .i64 z), (7, ptr (some ⟨q21.1, 0, none⟩) 0), (8, ptr (some ⟨b8, 0, none⟩) 0), (9, .slice y.1.1 y.2.length y.1.2)]) (fun y => (rowP y.1 y.2) :: (own (some ⟨b8, 0, none⟩) 1 1 35 2 [.int .i64 8, .int .i64 2]) :: L) (fun y => goodB y.2 = false ∧ y.2.length ≤ 65) ?_ ?_
    · skip
      refine pk_seq ?_
      refine pk_region ?_
      refine pk_val rfl rfl rfl (val_move rfl rfl) ?_
      refine pk_val rfl rfl rfl (val_andw rfl rfl rfl) ?_
      refine pk_val rfl rfl rfl (val_eql rfl rfl rfl) ?_
      refine pk_nil ?_
      refine thru_on ?_
      refine pk_if rfl (fun h1 => ?_) (fun h1 => ?_)
      · skip
        refine Pk.nilrow 59 1 ?_
        refine pk_seq ?_
        refine pk_region ?_
        refine pk_val rfl rfl rfl (val_assign rfl rfl) ?_
        refine pk_nil ?_
        refine thru_on ?_
        refine pk_block ?_
        refine pk_loop (α := Nat × Option Addr × Nat) ((0, none, 0)) (fun y => [(0, .slice A n c), (1, .slice B vs.length d), (2, .int .i64 z), (7, ptr (some ⟨q21.1, 0, none⟩) 0), (8, ptr (some ⟨b8, 0, none⟩) 0), (9, .slice y.2.1 y.1 y.2.2), (10, .int .i64 (y.1 : Nat))]) (fun y => (own y.2.1 y.1 y.2.2 59 1 ((List.replicate y.1 (some q21.1)).map sp)) :: (own (some ⟨b8, 0, none⟩) 1 1 35 2 [.int .i64 8, .int .i64 2]) :: L) (fun y => y.1 ≤ 65) (fun y => 65 - y.1) ?_ ?_ ?_ ?_
        · (try dsimp only) <;> exact Nat.zero_le _
        · exact ⟨(Sub.cons rfl (by first | rfl | (congr 1; omega) | simp) (Sub.cons rfl (by first | rfl | (congr 1; omega) | simp) (Sub.cons rfl (by first | rfl | (congr 1; omega) | simp) (Sub.cons rfl (by first | rfl | (congr 1; omega) | simp) (Sub.cons rfl (by first | rfl | (congr 1; omega) | simp) (Sub.cons rfl (by first | rfl | (congr 1; omega) | simp) (Sub.cons rfl (by first | rfl | (congr 1; omega) | simp) (Sub.nil _)))))))), rfl⟩
        · exact (fun _ h => Sats.keep [true, true, false] h)
        rintro ⟨j, q, e⟩ hj0
        dsimp only at hj0 ⊢
        refine pk_seq ?_
        refine pk_seq ?_
        refine pk_region ?_
        refine pk_val rfl rfl rfl (val_move rfl rfl) ?_
        refine pk_val rfl rfl rfl (val_lss rfl rfl rfl) ?_
        refine pk_nil ?_
        refine thru_on ?_
        refine pk_if rfl (fun h2 => ?_) (fun h2 => ?_)
        · skip
          refine pk_skip ?_
          refine thru_on ?_
          refine pk_seq ?_
          refine pk_block ?_
          refine pk_region ?_
          refine pk_val rfl rfl rfl (val_move rfl rfl) ?_
          refine pk_val rfl rfl rfl (val_move rfl rfl) ?_
          refine pk_eff (eff_buildSlice (len := 1) (sz := 1) (z := #[.pointer none]) rfl Tryz.underlying61 (by kernel_rfl) rfl rfl rfl (by decide) (by decide) rfl rfl) rfl rfl rfl (fun b32 _ => ?_)
          refine pk_eff (eff_append1 (sz := 1) (bytes := 8) (z := .pointer none) 1 rfl Tryz.underlying61 (by kernel_rfl) rfl (by decide) (by decide) rfl rfl rfl (Ent.own 0 rfl) (by rw [List.length_map, List.length_replicate]; omega) rfl rfl (by omega)) rfl rfl rfl (fun q33 _ => ?_)
          refine pk_val rfl rfl rfl (val_assign rfl rfl) ?_
          refine pk_nil ?_
          refine in_on ?_
          refine thru_on ?_
          refine pk_region ?_
          refine pk_val rfl rfl rfl (val_move rfl rfl) ?_
          refine pk_val rfl rfl rfl (val_add rfl rfl rfl (by omega)) ?_
          refine pk_val rfl rfl rfl (val_assign rfl rfl) ?_
          refine pk_nil ?_
          refine thru_on ?_
          refine pk_next (x := ⟨j, q, e⟩) ((j + 1, q33.1, q33.2)) ?_ ?_ ?_ ?_
          · (try dsimp only) <;> exact (by omega)
          · (try dsimp only); exact (by omega)
          · exact ⟨(Sub.cons rfl (by first | rfl | (congr 1; omega) | simp) (Sub.cons rfl (by first | rfl | (congr 1; omega) | simp) (Sub.cons rfl (by first | rfl | (congr 1; omega) | simp) (Sub.cons rfl (by first | rfl | (congr 1; omega) | simp) (Sub.cons rfl (by first | rfl | (congr 1; omega) | simp) (Sub.cons rfl (by first | rfl | (congr 1; omega) | simp) (Sub.cons rfl (by first | rfl | (congr 1; omega) | simp) (Sub.nil _)))))))), rfl⟩
          · exact (fun _ h => by (try dsimp only); rw [rep_succ]; exact (Sats.keep [false, true, true] h))
        · skip
          have hj65 : j = 65 := by omega
          subst hj65
          refine pk_exit ?_
          refine thru ?_
          refine thru ?_
          refine pk_here ?_
          refine thru_on ?_
          refine pk_fin (((q, e), List.replicate 65 (some q21.1))) ?_ ?_ ?_
          · (try dsimp only) <;> exact ⟨rep_bad _, by rw [List.length_replicate]; exact Nat.le_refl _⟩
          · exact ⟨(Sub.cons rfl (by first | rfl | (congr 1; omega) | simp) (Sub.cons rfl (by first | rfl | (congr 1; omega) | simp) (Sub.cons rfl (by first | rfl | (congr 1; omega) | simp) (Sub.cons rfl (by first | rfl | (congr 1; omega) | simp) (Sub.cons rfl (by first | rfl | (congr 1; omega) | simp) (Sub.cons rfl (by rw [List.length_replicate]) (Sub.nil _))))))), rfl⟩
          · exact (fun _ h => by (try dsimp only); rw [rowP, List.length_replicate]; exact (h))
      · skip
        refine pk_skip ?_
        refine thru_on ?_
        refine Pk.nilrow 59 1 ?_
        refine pk_fin (((none, 0), [])) ?_ ?_ ?_
        · (try dsimp only) <;> exact ⟨rfl, by decide⟩
        · exact ⟨(Sub.cons rfl (by first | rfl | (congr 1; omega) | simp) (Sub.cons rfl (by first | rfl | (congr 1; omega) | simp) (Sub.cons rfl (by first | rfl | (congr 1; omega) | simp) (Sub.cons rfl (by first | rfl | (congr 1; omega) | simp) (Sub.cons rfl (by first | rfl | (congr 1; omega) | simp) (Sub.cons rfl (by first | rfl | (congr 1; omega) | simp) (Sub.nil _))))))), rfl⟩
        · exact (fun _ h => (Sats.keep [true, true, false] h))
    rintro ⟨q, ps⟩ ⟨hg, hgl⟩
    dsimp only at hg hgl ⊢
    refine pk_cut (α := (Option Addr × Nat) × List (Option Nat)) (fun y => [(0, .slice A n c), (1, .slice B vs.length d), (2, .int .i64 z), (7, ptr (some ⟨q21.1, 0, none⟩) 0), (8, ptr (some ⟨b8, 0, none⟩) 0), (9, .slice y.1.1 y.2.length y.1.2)]) (fun y => (rowP y.1 y.2) :: (own (some ⟨b8, 0, none⟩) 1 1 35 2 [.int .i64 8, .int .i64 2]) :: L) (fun y => goodB y.2 = false ∧ y.2.length ≤ 65) ?_ ?_
    · skip
      refine pk_seq ?_
      refine pk_region ?_
      refine pk_val rfl rfl rfl (val_move rfl rfl) ?_
      refine pk_val rfl rfl rfl (val_andw rfl rfl rfl) ?_
      refine pk_val rfl rfl rfl (val_eql rfl rfl rfl) ?_
      refine pk_nil ?_
      refine thru_on ?_
      refine pk_if rfl (fun h3 => ?_) (fun h3 => ?_)
      · skip
        refine pk_region ?_
        refine pk_val rfl rfl rfl (val_move rfl rfl) ?_
        refine pk_eff (eff_buildSlice (len := 2) (sz := 1) (z := #[.pointer none]) rfl Tryz.underlying61 (by kernel_rfl) rfl rfl rfl (by decide) (by decide) rfl rfl) rfl rfl rfl (fun b38 _ => ?_)
        refine pk_val rfl rfl rfl (val_assign rfl rfl) ?_
        refine pk_nil ?_
        refine thru_on ?_
        refine pk_fin (((some ⟨b38, 0, none⟩, 2), [some q21.1, none])) ?_ ?_ ?_
        · (try dsimp only) <;> exact ⟨rfl, by show 2 ≤ 65; decide⟩
        · exact ⟨(Sub.cons rfl (by first | rfl | (congr 1; omega) | simp) (Sub.cons rfl (by first | rfl | (congr 1; omega) | simp) (Sub.cons rfl (by first | rfl | (congr 1; omega) | simp) (Sub.cons rfl (by first | rfl | (congr 1; omega) | simp) (Sub.cons rfl (by first | rfl | (congr 1; omega) | simp) (Sub.cons rfl (by first | rfl | (congr 1; omega) | simp) (Sub.nil _))))))), rfl⟩
        · exact (fun _ h => (Sats.keep [true, false, true] h))
      · skip
        refine pk_skip ?_
        refine thru_on ?_
        refine pk_fin ((q, ps)) ?_ ?_ ?_
        · (try dsimp only) <;> exact ⟨hg, hgl⟩
        · exact ⟨(Sub.cons rfl (by first | rfl | (congr 1; omega) | simp) (Sub.cons rfl (by first | rfl | (congr 1; omega) | simp) (Sub.cons rfl (by first | rfl | (congr 1; omega) | simp) (Sub.cons rfl (by first | rfl | (congr 1; omega) | simp) (Sub.cons rfl (by first | rfl | (congr 1; omega) | simp) (Sub.cons rfl (by first | rfl | (congr 1; omega) | simp) (Sub.nil _))))))), rfl⟩
        · exact (fun _ h => (h))
    rintro ⟨q, ps⟩ ⟨hg, hgl⟩
    dsimp only at hg hgl ⊢
    refine pk_seq ?_
    refine pk_region ?_
    refine pk_val rfl rfl rfl (val_move rfl rfl) ?_
    refine pk_val rfl rfl rfl (val_move rfl rfl) ?_
    refine pk_val rfl rfl rfl (val_loads (vs := [.int .i64 8, .int .i64 2]) rfl Tryz.underlying35 rfl (by kernel_rfl) rfl (Ent.pure rfl) ((Ent.own 1 rfl).rds (fun j v h => by rw [Nat.zero_add j]; exact h))) ?_
    refine pk_eff (eff_call1 rfl ⟨_, Tryz.func26, by kernel_rfl, rfl⟩ rfl (fun E w s => hybrid_First_no (ps := ps) s (Ent.own 0 rfl) rfl (by omega) (by rw [hg]; rfl))) rfl rfl rfl (fun _ _ => ?_)
    refine pk_val rfl rfl rfl (val_move rfl rfl) ?_
    refine pk_val rfl rfl rfl (val_extract rfl rfl rfl) ?_
    refine pk_val rfl rfl rfl (val_extract rfl rfl rfl) ?_
    refine pk_val rfl rfl rfl (val_assign rfl rfl) ?_
    refine pk_val rfl rfl rfl (val_assign rfl rfl) ?_
    refine pk_nil ?_
    refine thru_on ?_
    refine pk_seq ?_
    refine pk_drawk (.val 0 (.val 1 (.val 3 (.eff 2 (.eff 4 (.val 5 (.val 6 (.val 7 (.val 8 (.val 9 .nil)))))))))) 1010 [] rfl (by kernel_rfl) (fun _ _ _ _ _ h => h) ?_
    refine ord_val rfl rfl rfl rfl (fun _ h => h) (val_move rfl rfl) ?_
    refine ord_val rfl rfl rfl rfl (fun _ h => h) (val_move rfl rfl) ?_
    refine ord_val rfl rfl rfl rfl (fun _ h => h) (val_loads (vs := [.int .i64 8, .int .i64 2]) rfl Tryz.underlying35 rfl (by kernel_rfl) rfl (Ent.pure rfl) ((Ent.own 1 rfl).rds (fun j v h => by rw [Nat.zero_add j]; exact h))) ?_
    refine ord_eff (eff_callx rfl ⟨_, Tryz.func18, by kernel_rfl, rfl⟩ rfl (fun E w s => l28_lent_c s hV.cons.cons hl)) rfl rfl rfl rfl (.inr fun _ _ => (fun _ h => (Sats.keep [false, false, true, true] h :))) (fun q49 hq49 => ?_)
    refine ord_eff (eff_call1 rfl ⟨_, Tryz.func27, by kernel_rfl, rfl⟩ rfl (fun E w s => hybrid_Second_no (ps := ps) s (Ent.own 2 rfl) rfl (by omega) (by rw [hg]; rfl))) rfl rfl rfl rfl (.inr fun _ _ => (fun _ h => (Sats.keep [false, false, true, true] h :))) (fun _ _ => ?_)
    refine ord_val rfl rfl rfl rfl (fun _ h => (Sats.keep [false, false, true, true] h :)) (val_move rfl rfl) ?_
    refine ord_val rfl rfl rfl rfl (fun _ h => (Sats.keep [false, false, true, true] h :)) (val_extract rfl rfl rfl) ?_
    refine ord_val rfl rfl rfl rfl (fun _ h => (Sats.keep [false, false, true, true] h :)) (val_extract rfl rfl rfl) ?_
    refine ord_val rfl rfl rfl rfl (fun _ h => (Sats.keep [false, false, true, true] h :)) (val_assign rfl rfl) ?_
    refine ord_val rfl rfl rfl rfl (fun _ h => (Sats.keep [false, false, true, true] h :)) (val_assign rfl rfl) ?_
    refine ord_nil ?_
    refine thru_on ?_
    refine pk_seq ?_
    refine pk_region ?_
    refine pk_val rfl rfl rfl (val_move rfl rfl) ?_
    refine pk_eff (eff_buildSlice (len := 1) (sz := 1) (z := #[.pointer none]) rfl Tryz.underlying61 (by kernel_rfl) rfl rfl rfl (by decide) (by decide) rfl rfl) rfl rfl rfl (fun b56 _ => ?_)
    refine pk_val rfl rfl rfl (val_move rfl rfl) ?_
    refine pk_val rfl rfl rfl (val_build (z := [.int .i64 0, .int .i64 0]) [(0, 1), (1, 1)] rfl Tryz.underlying35 (by kernel_rfl) (by kernel_rfl) rfl rfl rfl) ?_
    refine pk_eff (eff_call1 rfl ⟨_, Tryz.func26, by kernel_rfl, rfl⟩ rfl (fun E w s => hybrid_First_no (ps := [some q21.1]) s (Ent.own 0 rfl) rfl (show 1 ≤ 1099511627776 by decide) (by rw [show mayF 0 1 = false by decide, Bool.and_false]))) rfl rfl rfl (fun _ _ => ?_)
    refine pk_val rfl rfl rfl (val_move rfl rfl) ?_
    refine pk_val rfl rfl rfl (val_extract rfl rfl rfl) ?_
    refine pk_val rfl rfl rfl (val_extract rfl rfl rfl) ?_
    refine pk_val rfl rfl rfl (val_assign rfl rfl) ?_
    refine pk_val rfl rfl rfl (val_assign rfl rfl) ?_
    refine pk_nil ?_
    refine thru_on ?_
    refine pk_seq ?_
    refine pk_region ?_
    refine pk_eff (eff_call1 rfl ⟨_, Tryz.func28, by kernel_rfl, rfl⟩ rfl (fun E w s => shard_Of_c (p := 1) s (by decide) (by decide))) rfl rfl rfl (fun _ _ => ?_)
    refine pk_val rfl rfl rfl (val_move rfl rfl) ?_
    refine pk_val rfl rfl rfl (val_extract rfl rfl rfl) ?_
    refine pk_val rfl rfl rfl (val_extract rfl rfl rfl) ?_
    refine pk_val rfl rfl rfl (val_assign rfl rfl) ?_
    refine pk_val rfl rfl rfl (val_assign rfl rfl) ?_
    refine pk_nil ?_
    refine thru_on ?_
    refine pk_seq ?_
    refine pk_region ?_
    refine pk_val rfl rfl rfl (val_move rfl rfl) ?_
    refine pk_val rfl rfl rfl (val_len_slice rfl Tryz.underlying43 rfl) ?_
    refine pk_val rfl rfl rfl (val_move rfl rfl) ?_
    refine pk_val rfl rfl rfl (val_len_slice rfl Tryz.underlying43 rfl) ?_
    refine pk_val rfl rfl rfl (val_add rfl rfl rfl (by omega)) ?_
    refine pk_val rfl rfl rfl (val_move rfl rfl) ?_
    refine pk_val rfl rfl rfl (val_len_slice rfl Tryz.underlying43 rfl) ?_
    refine pk_val rfl rfl rfl (val_add rfl rfl rfl (by omega)) ?_
    refine pk_val rfl rfl rfl (val_eql rfl rfl rfl) ?_
    refine pk_val rfl rfl rfl (val_move rfl rfl) ?_
    refine pk_guard_yes rfl rfl rfl ?_
    refine pk_val rfl rfl rfl (val_move rfl rfl) ?_
    refine pk_guard_yes rfl rfl rfl ?_
    refine pk_val rfl rfl rfl (val_eql rfl rfl rfl) ?_
    refine pk_val rfl rfl rfl (val_pick rfl rfl rfl rfl) ?_
    refine pk_val rfl rfl rfl (val_move rfl rfl) ?_
    refine pk_guard_yes rfl rfl rfl ?_
    refine pk_val rfl rfl rfl (val_move rfl rfl) ?_
    refine pk_guard_yes rfl rfl rfl ?_
    refine pk_val rfl rfl rfl (val_eql rfl rfl rfl) ?_
    refine pk_val rfl rfl rfl (val_pick rfl rfl rfl rfl) ?_
    refine pk_val rfl rfl rfl (val_move rfl rfl) ?_
    refine pk_guard_yes rfl rfl rfl ?_
    refine pk_val rfl rfl rfl (val_move rfl rfl) ?_
    refine pk_guard_yes rfl rfl rfl ?_
    refine pk_val rfl rfl rfl (val_eql rfl rfl rfl) ?_
    refine pk_val rfl rfl rfl (val_pick rfl rfl rfl rfl) ?_
    refine pk_val rfl rfl rfl (val_move rfl rfl) ?_
    refine pk_guard_yes rfl rfl rfl ?_
    refine pk_val rfl rfl rfl (val_move rfl rfl) ?_
    refine pk_guard_yes rfl rfl rfl ?_
    refine pk_val rfl rfl rfl (val_eql rfl rfl rfl) ?_
    refine pk_val rfl rfl rfl (val_pick rfl rfl rfl rfl) ?_
    refine pk_val rfl rfl rfl (val_assign rfl rfl) ?_
    refine pk_nil ?_
    refine thru_on ?_
    refine pk_ret ?_
    refine ret1 rfl rfl fun w s => ⟨rfl, s.to (fun _ h => Sats.keep [false, false, false, false, false] h)⟩
end Go.Proofs.YtdpckendkklfdaaGreat
