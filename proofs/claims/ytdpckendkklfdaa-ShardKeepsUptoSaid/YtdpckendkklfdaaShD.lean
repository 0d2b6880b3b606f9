/- The walks of rampartlaw05: rest, same, samePairs, known, mark, marked. -/
import Derived.Test.YtdpckendkklfdaaShC
import Derived.Test.YtdpckendkklfdaaEngN
set_option linter.unusedVariables false
set_option linter.unusedSimpArgs false
set_option maxRecDepth 100000
namespace Go.Proofs.Ytdpckendkklfdaa
open Go.RowKit Go.Proofs.Eng
theorem law05_rest_c {E w : World} {L : List Ch} {n : Int} {m : Nat} (s : Sat E w L) (hm : m ≤ 1099511627776) :
    Calls Try.prog 13 #[.int .i64 n, .int .i64 (m : Nat)] w (Gives E (.int .i64 (restN n m : Nat)) L) := by
  refine enter (vs := [_, _]) Try.func13 rfl Try.ntmps13 rfl s ?_
  have hb := tmod_bounds n m
  refine pk_seq ?_
  refine pk_region ?_
  refine pk_val rfl rfl rfl (val_assign rfl rfl) ?_
  refine pk_nil ?_
  refine thru_on ?_
  refine pk_seq ?_
  refine pk_region ?_
  refine pk_val rfl rfl rfl (val_move rfl rfl) ?_
  refine pk_val rfl rfl rfl (val_move rfl rfl) ?_
  refine pk_val rfl rfl rfl (val_add rfl rfl rfl (by omega)) ?_
  refine pk_val rfl rfl rfl (val_remw rfl rfl rfl (by omega)) ?_
  refine pk_val rfl rfl rfl (val_assign rfl rfl) ?_
  refine pk_nil ?_
  refine thru_on ?_
  refine pk_seq ?_
  refine pk_seq ?_
  refine pk_region ?_
  refine pk_val rfl rfl rfl (val_move rfl rfl) ?_
  refine pk_val rfl rfl rfl (val_lss rfl rfl rfl) ?_
  refine pk_nil ?_
  refine thru_on ?_
  refine pk_if rfl (fun h => ?_) (fun h => ?_)
  · skip
    refine pk_region ?_
    refine pk_val rfl rfl rfl (val_move rfl rfl) ?_
    refine pk_val rfl rfl rfl (val_move rfl rfl) ?_
    refine pk_val rfl rfl rfl (val_add rfl rfl rfl (by omega)) ?_
    refine pk_val rfl rfl rfl (val_add rfl rfl rfl (by omega)) ?_
    refine pk_val rfl rfl rfl (val_assign rfl rfl) ?_
    refine pk_nil ?_
    refine thru_on ?_
    refine pk_seq ?_
    refine pk_region ?_
    refine pk_val rfl rfl rfl (val_move rfl rfl) ?_
    refine pk_val rfl rfl rfl (val_assign rfl rfl) ?_
    refine pk_nil ?_
    refine thru_on ?_
    refine pk_ret ?_
    refine ret1 rfl rfl fun w s => ⟨?_, s⟩
    have e : ((restN n m : Nat) : Int) = n.tmod ((m : Int) + 1) + m + 1 := by unfold restN; rw [if_pos h]; omega
    rw [e]
  · skip
    refine pk_skip ?_
    refine thru_on ?_
    refine pk_seq ?_
    refine pk_region ?_
    refine pk_val rfl rfl rfl (val_move rfl rfl) ?_
    refine pk_val rfl rfl rfl (val_assign rfl rfl) ?_
    refine pk_nil ?_
    refine thru_on ?_
    refine pk_ret ?_
    refine ret1 rfl rfl fun w s => ⟨?_, s⟩
    have e : ((restN n m : Nat) : Int) = n.tmod ((m : Int) + 1) := by unfold restN; rw [if_neg h]; omega
    rw [e]
theorem list_eq_D {α : Type} (d : α) {l1 l2 : List α} (hl : l1.length = l2.length) (h : ∀ j, j < l1.length → l1.getD j d = l2.getD j d) : l1 = l2 := by
  apply List.ext_getElem hl
  intro i h1 h2
  have := h i h1
  simpa [h1, h2] using this
theorem pairS_api : PairSOk Try.prog 47 := ⟨⟨_, _, Try.underlying47, by decide, by decide, rfl, rfl, Try.underlying9, Try.underlying9⟩, by kernel_rfl⟩
theorem law05_same_c {E w : World} {L : List Ch} {A B : Option Addr} {c d n1 n2 : Nat} {l1 l2 : List ByteArray} (s : Sat E w L) (hr1 : Ent L (RdL A (l1.map .string))) (hr2 : Ent L (RdL B (l2.map .string))) (hn1 : l1.length = n1) (hn2 : l2.length = n2) (hl : l1.length ≤ 1099511627776) :
    Calls Try.prog 17 #[.slice A n1 c, .slice B n2 d] w (Gives E (.bool (decide (l1 = l2))) L) := by
  subst hn1 hn2
  refine enter (vs := [_, _]) Try.func17 rfl Try.ntmps17 rfl s ?_
  refine pk_seq ?_
  refine pk_region ?_
  refine pk_val rfl rfl rfl (val_assign rfl rfl) ?_
  refine pk_nil ?_
  refine thru_on ?_
  refine pk_seq ?_
  refine pk_seq ?_
  refine pk_region ?_
  refine pk_val rfl rfl rfl (val_move rfl rfl) ?_
  refine pk_val rfl rfl rfl (val_len_slice rfl Try.underlying34 rfl) ?_
  refine pk_val rfl rfl rfl (val_move rfl rfl) ?_
  refine pk_val rfl rfl rfl (val_len_slice rfl Try.underlying34 rfl) ?_
  refine pk_val rfl rfl rfl (val_neq rfl rfl rfl) ?_
  refine pk_nil ?_
  refine thru_on ?_
  refine pk_if rfl (fun h => ?_) (fun h => ?_)
  · skip
    refine pk_seq ?_
    refine pk_region ?_
    refine pk_val rfl rfl rfl (val_assign rfl rfl) ?_
    refine pk_nil ?_
    refine thru_on ?_
    refine pk_ret ?_
    refine thru_ret ?_
    refine ret1 rfl rfl fun w s => ⟨?_, s⟩
    have e : ¬ l1 = l2 := fun e => by subst e; simp at h
    simp [e]
  · skip
    refine pk_skip ?_
    refine thru_on ?_
    have hlen : l1.length = l2.length := by omega
    refine pk_seq ?_
    refine pk_seq ?_
    refine pk_region ?_
    refine pk_val rfl rfl rfl (val_assign rfl rfl) ?_
    refine pk_nil ?_
    refine thru_on ?_
    refine pk_block ?_
    refine pk_loop (α := Nat) (0) (fun k => [(5, .int .i64 (k : Nat)), (0, .slice A l1.length c), (1, .slice B l2.length d)]) (fun k => L) (fun k => ∀ j, j < k → l1.getD j emp = l2.getD j emp) (fun k => l1.length - k) ?_ ?_ ?_ ?_
    · (try dsimp only) <;> exact fun j h => by omega
    · exact ⟨(Sub.cons rfl (by first | rfl | (congr 1; omega) | simp) (Sub.cons rfl (by first | rfl | (congr 1; omega) | simp) (Sub.cons rfl (by first | rfl | (congr 1; omega) | simp) (Sub.nil _)))), rfl⟩
    · exact (fun _ h => h)
    rintro k hk0
    refine pk_seq ?_
    refine pk_seq ?_
    refine pk_region ?_
    refine pk_val rfl rfl rfl (val_move rfl rfl) ?_
    refine pk_val rfl rfl rfl (val_move rfl rfl) ?_
    refine pk_val rfl rfl rfl (val_len_slice rfl Try.underlying34 rfl) ?_
    refine pk_val rfl rfl rfl (val_lss rfl rfl rfl) ?_
    refine pk_nil ?_
    refine thru_on ?_
    refine pk_if rfl (fun h1 => ?_) (fun h1 => ?_)
    · skip
      refine pk_skip ?_
      refine thru_on ?_
      have hk : k < l1.length := by omega
      have hk2 : k < l2.length := by omega
      refine Pk.tells (hr1.some_of (by rw [List.length_map]; omega)) fun hA => ?_
      refine Pk.tells (hr2.some_of (by rw [List.length_map]; omega)) fun hB => ?_
      refine pk_seq ?_
      refine pk_block ?_
      refine pk_seq ?_
      refine pk_drawk (.val 0 (.val 1 (.val 2 (.val 3 (.val 4 (.val 5 (.val 6 (.val 7 (.val 8 .nil))))))))) 1009 [] rfl (by kernel_rfl) (fun _ _ _ _ _ h => h) ?_
      refine ord_val rfl rfl rfl rfl (fun _ h => h) (val_move rfl rfl) ?_
      refine ord_val rfl rfl rfl rfl (fun _ h => h) (val_move rfl rfl) ?_
      refine ord_val rfl rfl rfl rfl (fun _ h => h) (val_indexAddr rfl Try.underlying34 1 (by kernel_rfl) rfl rfl k rfl hk (Ent.pure hA)) ?_
      refine ord_val rfl rfl rfl rfl (fun _ h => h) (val_load rfl Try.underlying9 rfl rfl (hr1.rd (get_map emp hk))) ?_
      refine ord_val rfl rfl rfl rfl (fun _ h => h) (val_move rfl rfl) ?_
      refine ord_val rfl rfl rfl rfl (fun _ h => h) (val_move rfl rfl) ?_
      refine ord_val rfl rfl rfl rfl (fun _ h => h) (val_indexAddr rfl Try.underlying34 1 (by kernel_rfl) rfl rfl k rfl hk2 (Ent.pure hB)) ?_
      refine ord_val rfl rfl rfl rfl (fun _ h => h) (val_load rfl Try.underlying9 rfl rfl (hr2.rd (get_map emp hk2))) ?_
      refine ord_val rfl rfl rfl rfl (fun _ h => h) (val_str_neq rfl rfl rfl) ?_
      refine ord_nil ?_
      refine thru_on ?_
      refine pk_if rfl (fun h2 => ?_) (fun h2 => ?_)
      · skip
        refine pk_seq ?_
        refine pk_region ?_
        refine pk_val rfl rfl rfl (val_assign rfl rfl) ?_
        refine pk_nil ?_
        refine thru_on ?_
        refine pk_ret ?_
        refine in_ret ?_
        refine thru_ret ?_
        refine thru_ret ?_
        refine in_ret ?_
        refine thru_ret ?_
        refine ret1 rfl rfl fun w s => ⟨?_, s⟩
        have e : ¬ l1 = l2 := fun e => by subst e; exact h2 rfl
        simp [e]
      · skip
        refine pk_skip ?_
        refine in_on ?_
        refine thru_on ?_
        refine pk_region ?_
        refine pk_val rfl rfl rfl (val_move rfl rfl) ?_
        refine pk_val rfl rfl rfl (val_add rfl rfl rfl (by omega)) ?_
        refine pk_val rfl rfl rfl (val_assign rfl rfl) ?_
        refine pk_nil ?_
        refine thru_on ?_
        refine pk_next (x := k) (k + 1) ?_ ?_ ?_ ?_
        · (try dsimp only) <;> exact fun j hj => by
                by_cases e : j = k
                · subst e; exact Decidable.of_not_not h2
                · exact hk0 j (by omega)
        · (try dsimp only); exact (by omega)
        · exact ⟨(Sub.cons rfl (by first | rfl | (congr 1; omega) | simp) (Sub.cons rfl (by first | rfl | (congr 1; omega) | simp) (Sub.cons rfl (by first | rfl | (congr 1; omega) | simp) (Sub.nil _)))), rfl⟩
        · exact (fun _ h => h)
    · skip
      refine pk_exit ?_
      refine thru ?_
      refine thru ?_
      refine pk_here ?_
      refine thru_on ?_
      refine pk_seq ?_
      refine pk_region ?_
      refine pk_val rfl rfl rfl (val_assign rfl rfl) ?_
      refine pk_nil ?_
      refine thru_on ?_
      refine pk_ret ?_
      refine ret1 rfl rfl fun w s => ⟨?_, s⟩
      have e : l1 = l2 := list_eq_D emp hlen fun j hj => hk0 j (by omega)
      simp [e]
theorem law05_samePairs_c {E w : World} {L : List Ch} {A B : Option Addr} {c d n1 n2 : Nat} {l1 l2 : List Pr} (s : Sat E w L) (hr1 : Ent L (RdL A (l1.flatMap pC2))) (hr2 : Ent L (RdL B (l2.flatMap pC2))) (hn1 : l1.length = n1) (hn2 : l2.length = n2) (hl : l1.length ≤ 1099511627776) :
    Calls Try.prog 18 #[.slice A n1 c, .slice B n2 d] w (Gives E (.bool (decide (l1 = l2))) L) := by
  subst hn1 hn2
  refine enter (vs := [_, _]) Try.func18 rfl Try.ntmps18 rfl s ?_
  refine pk_seq ?_
  refine pk_region ?_
  refine pk_val rfl rfl rfl (val_assign rfl rfl) ?_
  refine pk_nil ?_
  refine thru_on ?_
  refine pk_seq ?_
  refine pk_seq ?_
  refine pk_region ?_
  refine pk_val rfl rfl rfl (val_move rfl rfl) ?_
  refine pk_val rfl rfl rfl (val_len_slice rfl Try.underlying44 rfl) ?_
  refine pk_val rfl rfl rfl (val_move rfl rfl) ?_
  refine pk_val rfl rfl rfl (val_len_slice rfl Try.underlying44 rfl) ?_
  refine pk_val rfl rfl rfl (val_neq rfl rfl rfl) ?_
  refine pk_nil ?_
  refine thru_on ?_
  refine pk_if rfl (fun h => ?_) (fun h => ?_)
  · skip
    refine pk_seq ?_
    refine pk_region ?_
    refine pk_val rfl rfl rfl (val_assign rfl rfl) ?_
    refine pk_nil ?_
    refine thru_on ?_
    refine pk_ret ?_
    refine thru_ret ?_
    refine ret1 rfl rfl fun w s => ⟨?_, s⟩
    have e : ¬ l1 = l2 := fun e => by subst e; simp at h
    simp [e]
  · skip
    refine pk_skip ?_
    refine thru_on ?_
    have hlen : l1.length = l2.length := by omega
    refine pk_seq ?_
    refine pk_seq ?_
    refine pk_region ?_
    refine pk_val rfl rfl rfl (val_assign rfl rfl) ?_
    refine pk_nil ?_
    refine thru_on ?_
    refine pk_block ?_
    refine pk_loop (α := Nat) (0) (fun k => [(5, .int .i64 (k : Nat)), (0, .slice A l1.length c), (1, .slice B l2.length d)]) (fun k => L) (fun k => ∀ j, j < k → l1.getD j dPr = l2.getD j dPr) (fun k => l1.length - k) ?_ ?_ ?_ ?_
    · (try dsimp only) <;> exact fun j h => by omega
    · exact ⟨(Sub.cons rfl (by first | rfl | (congr 1; omega) | simp) (Sub.cons rfl (by first | rfl | (congr 1; omega) | simp) (Sub.cons rfl (by first | rfl | (congr 1; omega) | simp) (Sub.nil _)))), rfl⟩
    · exact (fun _ h => h)
    rintro k hk0
    refine pk_seq ?_
    refine pk_seq ?_
    refine pk_region ?_
    refine pk_val rfl rfl rfl (val_move rfl rfl) ?_
    refine pk_val rfl rfl rfl (val_move rfl rfl) ?_
    refine pk_val rfl rfl rfl (val_len_slice rfl Try.underlying44 rfl) ?_
    refine pk_val rfl rfl rfl (val_lss rfl rfl rfl) ?_
    refine pk_nil ?_
    refine thru_on ?_
    refine pk_if rfl (fun h1 => ?_) (fun h1 => ?_)
    · skip
      refine pk_skip ?_
      refine thru_on ?_
      have hk : k < l1.length := by omega
      have hk2 : k < l2.length := by omega
      refine Pk.tells (hr1.some_of (by rw [flat_length pC2_len]; omega)) fun hA => ?_
      refine Pk.tells (hr2.some_of (by rw [flat_length pC2_len]; omega)) fun hB => ?_
      refine pk_seq ?_
      refine pk_block ?_
      refine pk_seq ?_
      refine pk_drawk (.val 0 (.val 1 (.val 2 (.val 3 (.val 4 (.val 5 (.val 6 (.val 7 (.val 8 .nil))))))))) 1009 [] rfl (by kernel_rfl) (fun _ _ _ _ _ h => h) ?_
      refine ord_val rfl rfl rfl rfl (fun _ h => h) (val_move rfl rfl) ?_
      refine ord_val rfl rfl rfl rfl (fun _ h => h) (val_move rfl rfl) ?_
      refine ord_val rfl rfl rfl rfl (fun _ h => h) (val_indexAddr rfl Try.underlying44 2 (by kernel_rfl) rfl rfl k rfl hk (Ent.pure hA)) ?_
      refine ord_val rfl rfl rfl rfl (fun _ h => h) (val_loads (vs := pC2 (l1.getD k dPr)) rfl Try.underlying47 rfl (by kernel_rfl) rfl (Ent.pure hA) (hr1.rds (flat_rds pC2_len dPr hk))) ?_
      refine ord_val rfl rfl rfl rfl (fun _ h => h) (val_move rfl rfl) ?_
      refine ord_val rfl rfl rfl rfl (fun _ h => h) (val_move rfl rfl) ?_
      refine ord_val rfl rfl rfl rfl (fun _ h => h) (val_indexAddr rfl Try.underlying44 2 (by kernel_rfl) rfl rfl k rfl hk2 (Ent.pure hB)) ?_
      refine ord_val rfl rfl rfl rfl (fun _ h => h) (val_loads (vs := pC2 (l2.getD k dPr)) rfl Try.underlying47 rfl (by kernel_rfl) rfl (Ent.pure hB) (hr2.rds (flat_rds pC2_len dPr hk2))) ?_
      refine ord_val rfl rfl rfl rfl (fun _ h => h) (val_pairS_neq (p := l1.getD k dPr) (q := l2.getD k dPr) pairS_api (by kernel_rfl) rfl rfl rfl) ?_
      refine ord_nil ?_
      refine thru_on ?_
      refine pk_if rfl (fun h2 => ?_) (fun h2 => ?_)
      · skip
        refine pk_seq ?_
        refine pk_region ?_
        refine pk_val rfl rfl rfl (val_assign rfl rfl) ?_
        refine pk_nil ?_
        refine thru_on ?_
        refine pk_ret ?_
        refine in_ret ?_
        refine thru_ret ?_
        refine thru_ret ?_
        refine in_ret ?_
        refine thru_ret ?_
        refine ret1 rfl rfl fun w s => ⟨?_, s⟩
        have e : ¬ l1 = l2 := fun e => by subst e; exact h2 rfl
        simp [e]
      · skip
        refine pk_skip ?_
        refine in_on ?_
        refine thru_on ?_
        refine pk_region ?_
        refine pk_val rfl rfl rfl (val_move rfl rfl) ?_
        refine pk_val rfl rfl rfl (val_add rfl rfl rfl (by omega)) ?_
        refine pk_val rfl rfl rfl (val_assign rfl rfl) ?_
        refine pk_nil ?_
        refine thru_on ?_
        refine pk_next (x := k) (k + 1) ?_ ?_ ?_ ?_
        · (try dsimp only) <;> exact fun j hj => by
                by_cases e : j = k
                · subst e; exact Decidable.of_not_not h2
                · exact hk0 j (by omega)
        · (try dsimp only); exact (by omega)
        · exact ⟨(Sub.cons rfl (by first | rfl | (congr 1; omega) | simp) (Sub.cons rfl (by first | rfl | (congr 1; omega) | simp) (Sub.cons rfl (by first | rfl | (congr 1; omega) | simp) (Sub.nil _)))), rfl⟩
        · exact (fun _ h => h)
    · skip
      refine pk_exit ?_
      refine thru ?_
      refine thru ?_
      refine pk_here ?_
      refine thru_on ?_
      refine pk_seq ?_
      refine pk_region ?_
      refine pk_val rfl rfl rfl (val_assign rfl rfl) ?_
      refine pk_nil ?_
      refine thru_on ?_
      refine pk_ret ?_
      refine ret1 rfl rfl fun w s => ⟨?_, s⟩
      have e : l1 = l2 := list_eq_D dPr hlen fun j hj => hk0 j (by omega)
      simp [e]
def hi8 (i : Nat) : Int := IntKind.u8.wrap ((i : Int).fdiv (2 ^ (min (8 : Int).toNat IntKind.i64.bits)))
def mark5 (i : Nat) : ByteArray := strOfNums [IntKind.u8.wrap (i : Int), hi8 i, 7, 7, 7]
def mkS (i : Nat) : List Value := [.string (mark5 i)]
def mkP (i : Nat) : List Value := [.string (mark5 i), .string ⟨#[]⟩]
theorem law05_mark_c {E w : World} {L : List Ch} {i : Nat} (s : Sat E w L) :
    Calls Try.prog 46 #[.int .i64 (i : Nat)] w (Gives E (.string (mark5 i)) L) := by
  refine enter (vs := [_]) Try.func46 rfl Try.ntmps46 rfl s ?_
  refine pk_seq ?_
  refine pk_region ?_
  refine pk_val rfl rfl rfl (val_assign rfl rfl) ?_
  refine pk_nil ?_
  refine thru_on ?_
  refine pk_seq ?_
  refine pk_region ?_
  refine pk_val rfl rfl rfl (val_move rfl rfl) ?_
  refine pk_val rfl rfl rfl (val_conv_int rfl Try.underlying3 Try.underlying5 rfl) ?_
  refine pk_val rfl rfl rfl (val_move rfl rfl) ?_
  refine pk_val rfl rfl rfl (val_shrw rfl rfl rfl (by omega)) ?_
  refine pk_val rfl rfl rfl (val_conv_int rfl Try.underlying3 Try.underlying5 rfl) ?_
  refine pk_eff (eff_buildSlice (len := 5) (sz := 1) (z := #[.int .u8 0]) rfl Try.underlying77 (by kernel_rfl) rfl rfl rfl (by decide) (by decide) rfl rfl) rfl rfl rfl (fun b8 _ => ?_)
  refine pk_val rfl rfl rfl (val_bytes_string (xs := [IntKind.u8.wrap (i : Int), hi8 i, 7, 7, 7]) rfl Try.underlying77 Try.underlying5 Try.underlying9 rfl (Ent.own 0 rfl) rfl) ?_
  refine pk_val rfl rfl rfl (val_assign rfl rfl) ?_
  refine pk_nil ?_
  refine thru_on ?_
  refine pk_ret ?_
  refine ret1 rfl rfl fun w s => ⟨rfl, s.to fun _ h => h.tail⟩
theorem law05_marked_c {E w : World} {L : List Ch} {Q X : Option Addr} {cap xcap : Nat} {ls xs : List Row} (s : Sat E w (Eng.cat (ls.map (rowAny 9 1)) :: Eng.cat (xs.map (rowAny 47 2)) :: L)) (hQ : Ent L (RdL Q (ls.map rowV))) (hX : Ent L (RdL X (xs.map rowV))) (hl : ls.length ≤ 1099511627776) (hx : xs.length ≤ 1099511627776) (hn : ∀ r ∈ ls, r.n ≤ 1099511627776) (hnx : ∀ r ∈ xs, r.n ≤ 1099511627776) {n1 n2 : Nat} (hn1 : ls.length = n1) (hn2 : xs.length = n2) :
    Calls Try.prog 19 #[.slice Q n1 cap, .slice X n2 xcap] w (Gives E (.bool true) L) := by
  subst hn1 hn2
  refine enter (vs := [_, _]) Try.func19 rfl Try.ntmps19 rfl s ?_
  refine Pk.heap (fun _ h => (by rw [gAm_start (mk := mkS) ls, gAm_start (mk := mkP) xs] at h; exact h : Sats (cat ((List.range ls.length).map (gAm 9 1 mkS ls 0)) :: cat ((List.range xs.length).map (gAm 47 2 mkP xs 0)) :: L) _)) ?_
  refine pk_seq ?_
  refine pk_region ?_
  refine pk_val rfl rfl rfl (val_assign rfl rfl) ?_
  refine pk_nil ?_
  refine thru_on ?_
  refine pk_seq ?_
  refine pk_region ?_
  refine pk_val rfl rfl rfl (val_assign rfl rfl) ?_
  refine pk_nil ?_
  refine thru_on ?_
  refine pk_seq ?_
  refine pk_region ?_
  refine pk_val rfl rfl rfl (val_assign rfl rfl) ?_
  refine pk_nil ?_
  refine thru_on ?_
  refine pk_seq ?_
  refine pk_seq ?_
  refine pk_region ?_
  refine pk_val rfl rfl rfl (val_assign rfl rfl) ?_
  refine pk_nil ?_
  refine thru_on ?_
  refine pk_block ?_
  refine pk_loop (α := Nat) (0) (fun i => [(0, .slice Q ls.length cap), (1, .slice X xs.length xcap), (5, .slice none 0 0), (6, .slice none 0 0), (7, .int .i64 (i : Nat))]) (fun i => (cat ((List.range ls.length).map (gAm 9 1 mkS ls i))) :: (cat ((List.range xs.length).map (gAm 47 2 mkP xs 0))) :: L) (fun i => i ≤ ls.length) (fun i => ls.length - i) ?_ ?_ ?_ ?_
  · (try dsimp only) <;> exact Nat.zero_le _
  · exact ⟨(Sub.cons rfl (by first | rfl | (congr 1; omega) | simp) (Sub.cons rfl (by first | rfl | (congr 1; omega) | simp) (Sub.cons rfl (by first | rfl | (congr 1; omega) | simp) (Sub.cons rfl (by first | rfl | (congr 1; omega) | simp) (Sub.cons rfl (by first | rfl | (congr 1; omega) | simp) (Sub.nil _)))))), rfl⟩
  · exact (fun _ h => h)
  rintro i hi0
  refine pk_seq ?_
  refine pk_seq ?_
  refine pk_region ?_
  refine pk_val rfl rfl rfl (val_move rfl rfl) ?_
  refine pk_val rfl rfl rfl (val_move rfl rfl) ?_
  refine pk_val rfl rfl rfl (val_len_slice rfl Try.underlying41 rfl) ?_
  refine pk_val rfl rfl rfl (val_lss rfl rfl rfl) ?_
  refine pk_nil ?_
  refine thru_on ?_
  refine pk_if rfl (fun h1 => ?_) (fun h1 => ?_)
  · skip
    refine pk_skip ?_
    refine thru_on ?_
    have hi : i < ls.length := by omega
    have hni := hn _ (getD_mem dRow hi)
    refine Pk.tells (hQ.cons.cons.some_of (by rw [List.length_map]; omega)) fun hA => ?_
    refine Pk.pull 0 rfl ?_
    refine Pk.heap (fun _ h => Sats.num_pull hi (gAm_next (i := i)) h) ?_
    rw [gAm_new]
    refine Pk.rowAny fun ys hys => ?_
    refine pk_seq ?_
    refine pk_block ?_
    refine pk_seq ?_
    refine pk_region ?_
    refine pk_val rfl rfl rfl (val_assign rfl rfl) ?_
    refine pk_nil ?_
    refine thru_on ?_
    refine pk_block ?_
    refine pk_loop (α := Nat) (0) (fun k => [(0, .slice Q ls.length cap), (1, .slice X xs.length xcap), (5, .slice none 0 0), (6, .slice none 0 0), (7, .int .i64 (i : Nat)), (8, .int .i64 (k : Nat))]) (fun k => (own (ls.getD i dRow).A (ls.getD i dRow).n (ls.getD i dRow).c 9 1 (reps k (mkS i) ++ ys.drop (k * 1))) :: (cat (((List.range ls.length).eraseIdx i).map (gAm 9 1 mkS ls (i + 1)))) :: (cat ((List.range xs.length).map (gAm 47 2 mkP xs 0))) :: L) (fun k => k ≤ (ls.getD i dRow).n) (fun k => (ls.getD i dRow).n - k) ?_ ?_ ?_ ?_
    · (try dsimp only) <;> exact Nat.zero_le _
    · exact ⟨(Sub.cons rfl (by first | rfl | (congr 1; omega) | simp) (Sub.cons rfl (by first | rfl | (congr 1; omega) | simp) (Sub.cons rfl (by first | rfl | (congr 1; omega) | simp) (Sub.cons rfl (by first | rfl | (congr 1; omega) | simp) (Sub.cons rfl (by first | rfl | (congr 1; omega) | simp) (Sub.cons rfl (by first | rfl | (congr 1; omega) | simp) (Sub.nil _))))))), rfl⟩
    · exact (fun _ h => h)
    rintro k hk0
    refine pk_seq ?_
    refine pk_seq ?_
    refine pk_region ?_
    refine pk_val rfl rfl rfl (val_move rfl rfl) ?_
    refine pk_val rfl rfl rfl (val_move rfl rfl) ?_
    refine pk_val rfl rfl rfl (val_move rfl rfl) ?_
    refine pk_val rfl rfl rfl (val_indexAddr rfl Try.underlying41 1 (by kernel_rfl) rfl rfl i rfl hi (Ent.pure hA)) ?_
    refine pk_val rfl rfl rfl (val_load (v := rowV (ls.getD i dRow)) rfl Try.underlying34 rfl rfl (hQ.cons.cons.cons.rd (get_map dRow hi))) ?_
    refine pk_val rfl rfl rfl (val_len_slice rfl Try.underlying34 rfl) ?_
    refine pk_val rfl rfl rfl (val_lss rfl rfl rfl) ?_
    refine pk_nil ?_
    refine thru_on ?_
    refine pk_if rfl (fun h2 => ?_) (fun h2 => ?_)
    · skip
      refine pk_skip ?_
      refine thru_on ?_
      have hk : k < (ls.getD i dRow).n := by omega
      have hyl : (reps k (mkS i) ++ ys.drop (k * 1)).length = (ls.getD i dRow).n * 1 := by rw [List.length_append, reps_len, List.length_drop, show (mkS i).length = 1 from rfl]; omega
      refine Pk.tells ((Ent.own 0 rfl).some_of (by rw [hyl]; omega)) fun hR => ?_
      refine pk_seq ?_
      refine pk_block ?_
      refine pk_drawk (.val 0 (.val 1 (.val 2 (.val 3 (.val 4 (.val 5 (.eff 6 (.val 7 (.eff 8 .nil))))))))) 8 [] rfl (by kernel_rfl) (fun _ _ _ _ _ h => h) ?_
      refine ord_val rfl rfl rfl rfl (fun _ h => h) (val_move rfl rfl) ?_
      refine ord_val rfl rfl rfl rfl (fun _ h => h) (val_move rfl rfl) ?_
      refine ord_val rfl rfl rfl rfl (fun _ h => h) (val_indexAddr rfl Try.underlying41 1 (by kernel_rfl) rfl rfl i rfl hi (Ent.pure hA)) ?_
      refine ord_val rfl rfl rfl rfl (fun _ h => h) (val_load (v := rowV (ls.getD i dRow)) rfl Try.underlying34 rfl rfl (hQ.cons.cons.cons.rd (get_map dRow hi))) ?_
      refine ord_val rfl rfl rfl rfl (fun _ h => h) (val_move rfl rfl) ?_
      refine ord_val rfl rfl rfl rfl (fun _ h => h) (val_move rfl rfl) ?_
      refine ord_eff (eff_call1 rfl ⟨_, Try.func46, by kernel_rfl, rfl⟩ rfl (fun E w s => law05_mark_c s)) rfl rfl rfl rfl (.inr fun _ _ => (fun _ h => h)) (fun _ _ => ?_)
      refine ord_val rfl rfl rfl rfl (fun _ h => h) (val_indexAddr rfl Try.underlying34 1 (by kernel_rfl) rfl rfl k rfl hk (Ent.pure hR)) ?_
      refine ord_eff0 (eff_store 0 rfl rfl rfl rfl rfl (by kernel_rfl) rfl (by rw [hyl]; simp only [List.length_singleton]; omega) (by simp)) rfl rfl rfl (.inl rfl) (fun _ _ => ?_)
      refine ord_nil ?_
      refine in_on ?_
      refine thru_on ?_
      refine pk_region ?_
      refine pk_val rfl rfl rfl (val_move rfl rfl) ?_
      refine pk_val rfl rfl rfl (val_add rfl rfl rfl (by omega)) ?_
      refine pk_val rfl rfl rfl (val_assign rfl rfl) ?_
      refine pk_nil ?_
      refine thru_on ?_
      refine pk_next (x := k) (k + 1) ?_ ?_ ?_ ?_
      · (try dsimp only) <;> exact hk
      · (try dsimp only); exact (by omega)
      · exact ⟨(Sub.cons rfl (by first | rfl | (congr 1; omega) | simp) (Sub.cons rfl (by first | rfl | (congr 1; omega) | simp) (Sub.cons rfl (by first | rfl | (congr 1; omega) | simp) (Sub.cons rfl (by first | rfl | (congr 1; omega) | simp) (Sub.cons rfl (by first | rfl | (congr 1; omega) | simp) (Sub.cons rfl (by first | rfl | (congr 1; omega) | simp) (Sub.nil _))))))), rfl⟩
      · exact (fun _ h => by rw [← splice_reps (s := 1) rfl (by omega)]; exact h)
    · skip
      refine pk_exit ?_
      refine thru ?_
      refine thru ?_
      refine pk_here ?_
      refine in_on ?_
      refine thru_on ?_
      refine pk_region ?_
      refine pk_val rfl rfl rfl (val_move rfl rfl) ?_
      refine pk_val rfl rfl rfl (val_add rfl rfl rfl (by omega)) ?_
      refine pk_val rfl rfl rfl (val_assign rfl rfl) ?_
      refine pk_nil ?_
      refine thru_on ?_
      refine pk_next (x := i) (i + 1) ?_ ?_ ?_ ?_
      · (try dsimp only) <;> exact hi
      · (try dsimp only); exact (by omega)
      · exact ⟨(Sub.cons rfl (by first | rfl | (congr 1; omega) | simp) (Sub.cons rfl (by first | rfl | (congr 1; omega) | simp) (Sub.cons rfl (by first | rfl | (congr 1; omega) | simp) (Sub.cons rfl (by first | rfl | (congr 1; omega) | simp) (Sub.cons rfl (by first | rfl | (congr 1; omega) | simp) (Sub.nil _)))))), rfl⟩
      · exact (fun _ h => by
        have hkn : k = (ls.getD i dRow).n := by omega
        rw [hkn, List.drop_eq_nil_of_le (by omega), List.append_nil] at h
        exact Sats.num_push (g' := gAm 9 1 mkS ls (i + 1)) hi (by rw [gAm_old]; exact h))
  · skip
    have hii : i = ls.length := by omega
    rw [hii]
    rw [gAm_end]
    refine pk_exit ?_
    refine thru ?_
    refine thru ?_
    refine pk_here ?_
    refine thru_on ?_
    refine pk_seq ?_
    refine pk_seq ?_
    refine pk_region ?_
    refine pk_val rfl rfl rfl (val_assign rfl rfl) ?_
    refine pk_nil ?_
    refine thru_on ?_
    refine pk_block ?_
    refine pk_loop (α := Nat) (0) (fun i => [(0, .slice Q ls.length cap), (1, .slice X xs.length xcap), (5, .slice none 0 0), (6, .slice none 0 0), (9, .int .i64 (i : Nat))]) (fun i => (cat ((List.range xs.length).map (gAm 47 2 mkP xs i))) :: (cat ((List.range ls.length).map (gBm 9 1 mkS ls []))) :: L) (fun i => i ≤ xs.length) (fun i => xs.length - i) ?_ ?_ ?_ ?_
    · (try dsimp only) <;> exact Nat.zero_le _
    · exact ⟨(Sub.cons rfl (by first | rfl | (congr 1; omega) | simp) (Sub.cons rfl (by first | rfl | (congr 1; omega) | simp) (Sub.cons rfl (by first | rfl | (congr 1; omega) | simp) (Sub.cons rfl (by first | rfl | (congr 1; omega) | simp) (Sub.cons rfl (by first | rfl | (congr 1; omega) | simp) (Sub.nil _)))))), rfl⟩
    · exact (fun _ h => Sats.swap h)
    rintro i hi0
    refine pk_seq ?_
    refine pk_seq ?_
    refine pk_region ?_
    refine pk_val rfl rfl rfl (val_move rfl rfl) ?_
    refine pk_val rfl rfl rfl (val_move rfl rfl) ?_
    refine pk_val rfl rfl rfl (val_len_slice rfl Try.underlying60 rfl) ?_
    refine pk_val rfl rfl rfl (val_lss rfl rfl rfl) ?_
    refine pk_nil ?_
    refine thru_on ?_
    refine pk_if rfl (fun h1 => ?_) (fun h1 => ?_)
    · skip
      refine pk_skip ?_
      refine thru_on ?_
      have hi : i < xs.length := by omega
      have hni := hnx _ (getD_mem dRow hi)
      refine Pk.tells (hX.cons.cons.some_of (by rw [List.length_map]; omega)) fun hA => ?_
      refine Pk.pull 0 rfl ?_
      refine Pk.heap (fun _ h => Sats.num_pull hi (gAm_next (i := i)) h) ?_
      rw [gAm_new]
      refine Pk.rowAny fun ys hys => ?_
      refine pk_seq ?_
      refine pk_block ?_
      refine pk_seq ?_
      refine pk_region ?_
      refine pk_val rfl rfl rfl (val_assign rfl rfl) ?_
      refine pk_nil ?_
      refine thru_on ?_
      refine pk_block ?_
      refine pk_loop (α := Nat) (0) (fun k => [(0, .slice Q ls.length cap), (1, .slice X xs.length xcap), (5, .slice none 0 0), (6, .slice none 0 0), (9, .int .i64 (i : Nat)), (10, .int .i64 (k : Nat))]) (fun k => (own (xs.getD i dRow).A (xs.getD i dRow).n (xs.getD i dRow).c 47 2 (reps k (mkP i) ++ ys.drop (k * 2))) :: (cat (((List.range xs.length).eraseIdx i).map (gAm 47 2 mkP xs (i + 1)))) :: (cat ((List.range ls.length).map (gBm 9 1 mkS ls []))) :: L) (fun k => k ≤ (xs.getD i dRow).n) (fun k => (xs.getD i dRow).n - k) ?_ ?_ ?_ ?_
      · (try dsimp only) <;> exact Nat.zero_le _
      · exact ⟨(Sub.cons rfl (by first | rfl | (congr 1; omega) | simp) (Sub.cons rfl (by first | rfl | (congr 1; omega) | simp) (Sub.cons rfl (by first | rfl | (congr 1; omega) | simp) (Sub.cons rfl (by first | rfl | (congr 1; omega) | simp) (Sub.cons rfl (by first | rfl | (congr 1; omega) | simp) (Sub.cons rfl (by first | rfl | (congr 1; omega) | simp) (Sub.nil _))))))), rfl⟩
      · exact (fun _ h => h)
      rintro k hk0
      refine pk_seq ?_
      refine pk_seq ?_
      refine pk_region ?_
      refine pk_val rfl rfl rfl (val_move rfl rfl) ?_
      refine pk_val rfl rfl rfl (val_move rfl rfl) ?_
      refine pk_val rfl rfl rfl (val_move rfl rfl) ?_
      refine pk_val rfl rfl rfl (val_indexAddr rfl Try.underlying60 1 (by kernel_rfl) rfl rfl i rfl hi (Ent.pure hA)) ?_
      refine pk_val rfl rfl rfl (val_load (v := rowV (xs.getD i dRow)) rfl Try.underlying44 rfl rfl (hX.cons.cons.cons.rd (get_map dRow hi))) ?_
      refine pk_val rfl rfl rfl (val_len_slice rfl Try.underlying44 rfl) ?_
      refine pk_val rfl rfl rfl (val_lss rfl rfl rfl) ?_
      refine pk_nil ?_
      refine thru_on ?_
      refine pk_if rfl (fun h2 => ?_) (fun h2 => ?_)
      · skip
        refine pk_skip ?_
        refine thru_on ?_
        have hk : k < (xs.getD i dRow).n := by omega
        have hyl : (reps k (mkP i) ++ ys.drop (k * 2)).length = (xs.getD i dRow).n * 2 := by rw [List.length_append, reps_len, List.length_drop, show (mkP i).length = 2 from rfl]; omega
        refine Pk.tells ((Ent.own 0 rfl).some_of (by rw [hyl]; omega)) fun hR => ?_
        refine pk_seq ?_
        refine pk_block ?_
        refine pk_drawk (.val 0 (.val 1 (.val 2 (.val 3 (.val 4 (.val 5 (.eff 6 (.val 7 (.val 8 (.eff 9 .nil)))))))))) 9 [] rfl (by kernel_rfl) (fun _ _ _ _ _ h => h) ?_
        refine ord_val rfl rfl rfl rfl (fun _ h => h) (val_move rfl rfl) ?_
        refine ord_val rfl rfl rfl rfl (fun _ h => h) (val_move rfl rfl) ?_
        refine ord_val rfl rfl rfl rfl (fun _ h => h) (val_indexAddr rfl Try.underlying60 1 (by kernel_rfl) rfl rfl i rfl hi (Ent.pure hA)) ?_
        refine ord_val rfl rfl rfl rfl (fun _ h => h) (val_load (v := rowV (xs.getD i dRow)) rfl Try.underlying44 rfl rfl (hX.cons.cons.cons.rd (get_map dRow hi))) ?_
        refine ord_val rfl rfl rfl rfl (fun _ h => h) (val_move rfl rfl) ?_
        refine ord_val rfl rfl rfl rfl (fun _ h => h) (val_move rfl rfl) ?_
        refine ord_eff (eff_call1 rfl ⟨_, Try.func46, by kernel_rfl, rfl⟩ rfl (fun E w s => law05_mark_c s)) rfl rfl rfl rfl (.inr fun _ _ => (fun _ h => h)) (fun _ _ => ?_)
        refine ord_val rfl rfl rfl rfl (fun _ h => h) (val_build (z := [.string ⟨#[]⟩, .string ⟨#[]⟩]) [(0, 1), (1, 1)] rfl Try.underlying47 (by kernel_rfl) (by kernel_rfl) rfl rfl rfl) ?_
        refine ord_val rfl rfl rfl rfl (fun _ h => h) (val_indexAddr rfl Try.underlying44 2 (by kernel_rfl) rfl rfl k rfl hk (Ent.pure hR)) ?_
        refine ord_eff0 (eff_store (vs := mkP i) 0 rfl rfl rfl rfl rfl (by kernel_rfl) rfl (by rw [hyl, show (mkP i).length = 2 from rfl]; omega) (by simp [mkP])) rfl rfl rfl (.inl rfl) (fun _ _ => ?_)
        refine ord_nil ?_
        refine in_on ?_
        refine thru_on ?_
        refine pk_region ?_
        refine pk_val rfl rfl rfl (val_move rfl rfl) ?_
        refine pk_val rfl rfl rfl (val_add rfl rfl rfl (by omega)) ?_
        refine pk_val rfl rfl rfl (val_assign rfl rfl) ?_
        refine pk_nil ?_
        refine thru_on ?_
        refine pk_next (x := k) (k + 1) ?_ ?_ ?_ ?_
        · (try dsimp only) <;> exact hk
        · (try dsimp only); exact (by omega)
        · exact ⟨(Sub.cons rfl (by first | rfl | (congr 1; omega) | simp) (Sub.cons rfl (by first | rfl | (congr 1; omega) | simp) (Sub.cons rfl (by first | rfl | (congr 1; omega) | simp) (Sub.cons rfl (by first | rfl | (congr 1; omega) | simp) (Sub.cons rfl (by first | rfl | (congr 1; omega) | simp) (Sub.cons rfl (by first | rfl | (congr 1; omega) | simp) (Sub.nil _))))))), rfl⟩
        · exact (fun _ h => by rw [← splice_reps (s := 2) rfl (by omega)]; exact h)
      · skip
        refine pk_exit ?_
        refine thru ?_
        refine thru ?_
        refine pk_here ?_
        refine in_on ?_
        refine thru_on ?_
        refine pk_region ?_
        refine pk_val rfl rfl rfl (val_move rfl rfl) ?_
        refine pk_val rfl rfl rfl (val_add rfl rfl rfl (by omega)) ?_
        refine pk_val rfl rfl rfl (val_assign rfl rfl) ?_
        refine pk_nil ?_
        refine thru_on ?_
        refine pk_next (x := i) (i + 1) ?_ ?_ ?_ ?_
        · (try dsimp only) <;> exact hi
        · (try dsimp only); exact (by omega)
        · exact ⟨(Sub.cons rfl (by first | rfl | (congr 1; omega) | simp) (Sub.cons rfl (by first | rfl | (congr 1; omega) | simp) (Sub.cons rfl (by first | rfl | (congr 1; omega) | simp) (Sub.cons rfl (by first | rfl | (congr 1; omega) | simp) (Sub.cons rfl (by first | rfl | (congr 1; omega) | simp) (Sub.nil _)))))), rfl⟩
        · exact (fun _ h => by
          have hkn : k = (xs.getD i dRow).n := by omega
          rw [hkn, List.drop_eq_nil_of_le (by omega), List.append_nil] at h
          exact Sats.num_push (g' := gAm 47 2 mkP xs (i + 1)) hi (by rw [gAm_old]; exact h))
    · skip
      have hii2 : i = xs.length := by omega
      rw [hii2, gAm_end]
      refine Pk.nilrow 34 1 ?_
      refine pk_exit ?_
      refine thru ?_
      refine thru ?_
      refine pk_here ?_
      refine thru_on ?_
      refine pk_seq ?_
      refine pk_seq ?_
      refine pk_region ?_
      refine pk_val rfl rfl rfl (val_assign rfl rfl) ?_
      refine pk_nil ?_
      refine thru_on ?_
      refine pk_block ?_
      refine pk_loop (α := List (Option Addr × Nat) × Option Addr × Nat) (([], none, 0)) (fun y => [(0, .slice Q ls.length cap), (1, .slice X xs.length xcap), (6, .slice none 0 0), (5, .slice y.2.1 y.1.length y.2.2), (11, .int .i64 (y.1.length : Nat))]) (fun y => (own y.2.1 y.1.length y.2.2 34 1 (longVm ls y.1 y.1.length)) :: (cat ((List.range ls.length).map (gBm 9 1 mkS ls y.1))) :: (cat ((List.range xs.length).map (gBm 47 2 mkP xs []))) :: L) (fun y => y.1.length ≤ ls.length) (fun y => ls.length - y.1.length) ?_ ?_ ?_ ?_
      · (try dsimp only) <;> exact Nat.zero_le _
      · exact ⟨(Sub.cons rfl (by first | rfl | (congr 1; omega) | simp) (Sub.cons rfl (by first | rfl | (congr 1; omega) | simp) (Sub.cons rfl (by first | rfl | (congr 1; omega) | simp) (Sub.cons rfl (by first | rfl | (congr 1; omega) | simp) (Sub.cons rfl (by first | rfl | (congr 1; omega) | simp) (Sub.nil _)))))), rfl⟩
      · exact (fun _ h => ((Sats.pick 3 [0, 2, 1] rfl h :)))
      rintro ⟨done, q, d⟩ hd0
      dsimp only at hd0 ⊢
      obtain ⟨i, hdi⟩ : ∃ i, i = done.length := ⟨_, rfl⟩
      refine pk_seq ?_
      refine pk_seq ?_
      refine pk_region ?_
      refine pk_val rfl rfl rfl (val_move rfl rfl) ?_
      refine pk_val rfl rfl rfl (val_move rfl rfl) ?_
      refine pk_val rfl rfl rfl (val_len_slice rfl Try.underlying41 rfl) ?_
      refine pk_val rfl rfl rfl (val_lss rfl rfl rfl) ?_
      refine pk_nil ?_
      refine thru_on ?_
      refine pk_if rfl (fun h3 => ?_) (fun h3 => ?_)
      · skip
        refine pk_skip ?_
        refine thru_on ?_
        have hi : i < ls.length := by omega
        have hni := hn _ (getD_mem dRow hi)
        refine Pk.tells (hQ.cons.cons.cons.some_of (by rw [List.length_map]; omega)) fun hA => ?_
        refine pk_seq ?_
        refine pk_block ?_
        refine pk_seq ?_
        refine pk_region ?_
        refine pk_val rfl rfl rfl (val_move rfl rfl) ?_
        refine pk_val rfl rfl rfl (val_move rfl rfl) ?_
        refine pk_val rfl rfl rfl (val_indexAddr rfl Try.underlying41 1 (by kernel_rfl) rfl rfl i (by rw [hdi]) hi (Ent.pure hA)) ?_
        refine pk_val rfl rfl rfl (val_load (v := rowV (ls.getD i dRow)) rfl Try.underlying34 rfl rfl (hQ.cons.cons.cons.rd (get_map dRow hi))) ?_
        refine pk_val rfl rfl rfl (val_assign rfl rfl) ?_
        refine pk_nil ?_
        refine thru_on ?_
        refine pk_seq ?_
        refine pk_seq ?_
        refine pk_region ?_
        refine pk_val rfl rfl rfl (val_assign rfl rfl) ?_
        refine pk_nil ?_
        refine thru_on ?_
        refine pk_block ?_
        refine pk_loop (α := Nat × Option Addr × Nat) ((0, (ls.getD i dRow).A, (ls.getD i dRow).c)) (fun y => [(0, .slice Q ls.length cap), (1, .slice X xs.length xcap), (6, .slice none 0 0), (5, .slice q done.length d), (11, .int .i64 (i : Nat)), (12, .slice y.2.1 ((ls.getD i dRow).n + y.1) y.2.2), (13, .int .i64 (y.1 : Nat))]) (fun y => (lr 9 1 (ls.getD i dRow).A (ls.getD i dRow).n y.2.1 ((ls.getD i dRow).n + y.1) y.2.2 (mkS i)) :: (cat (((List.range ls.length).eraseIdx i).map (gBm 9 1 mkS ls done))) :: (own q done.length d 34 1 (longVm ls done done.length)) :: (cat ((List.range xs.length).map (gBm 47 2 mkP xs []))) :: L) (fun y => y.1 ≤ 30) (fun y => 30 - y.1) ?_ ?_ ?_ ?_
        · (try dsimp only) <;> exact Nat.zero_le _
        · exact ⟨(Sub.cons rfl (by first | rfl | (congr 1; omega) | simp) (Sub.cons rfl (by first | rfl | (congr 1; omega) | simp) (Sub.cons rfl (by first | rfl | (congr 1; omega) | simp) (Sub.cons rfl (by first | rfl | (congr 1; omega) | simp) (Sub.cons rfl (by rw [hdi]) (Sub.cons rfl (by first | rfl | (congr 1; omega) | simp) (Sub.cons rfl (by first | rfl | (congr 1; omega) | simp) (Sub.nil _)))))))), rfl⟩
        · exact (fun _ h => by
          have h1 := Sats.num_pull (g' := gBm 9 1 mkS ls done) hi (fun _ _ _ => rfl) (Sats.pull 1 rfl h)
          have e1 := gBm_new (T := 9) (s := 1) (mk := mkS) ls done
          rw [← hdi] at e1
          rw [e1] at h1
          exact Sats.head (fun _ o => lr_start o) h1)
        rintro ⟨k, B, e⟩ hk0
        dsimp only at hk0 ⊢
        refine pk_seq ?_
        refine pk_seq ?_
        refine pk_region ?_
        refine pk_val rfl rfl rfl (val_move rfl rfl) ?_
        refine pk_val rfl rfl rfl (val_lss rfl rfl rfl) ?_
        refine pk_nil ?_
        refine thru_on ?_
        refine pk_if rfl (fun h4 => ?_) (fun h4 => ?_)
        · skip
          refine pk_skip ?_
          refine thru_on ?_
          refine pk_seq ?_
          refine pk_block ?_
          refine pk_region ?_
          refine pk_val rfl rfl rfl (val_move rfl rfl) ?_
          refine pk_val rfl rfl rfl (val_move rfl rfl) ?_
          refine pk_eff (eff_call1 rfl ⟨_, Try.func46, by kernel_rfl, rfl⟩ rfl (fun E w s => law05_mark_c s)) rfl rfl rfl (fun _ _ => ?_)
          refine Pk.pull 0 rfl ?_
          refine Pk.lr (fun hBA => ?_) ?_
          · skip
            refine pk_eff (eff_buildSlice (len := 1) (sz := 1) (z := #[.string ⟨#[]⟩]) rfl Try.underlying34 (by kernel_rfl) rfl rfl rfl (by decide) (by decide) rfl rfl) rfl rfl rfl (fun b85 _ => ?_)
            refine pk_eff (eff_appendK1 (sz := 1) (bytes := 16) (z := .string ⟨#[]⟩) 1 rfl Try.underlying34 (by kernel_rfl) rfl (by decide) (by decide) rfl rfl rfl (Ent.own 0 rfl) (by rw [reps_len]; rfl) rfl rfl (by omega)) rfl rfl rfl (fun q86 _ => ?_)
            refine pk_val rfl rfl rfl (val_assign rfl rfl) ?_
            refine pk_nil ?_
            refine in_on ?_
            refine thru_on ?_
            refine pk_region ?_
            refine pk_val rfl rfl rfl (val_move rfl rfl) ?_
            refine pk_val rfl rfl rfl (val_add rfl rfl rfl (by omega)) ?_
            refine pk_val rfl rfl rfl (val_assign rfl rfl) ?_
            refine pk_nil ?_
            refine thru_on ?_
            refine pk_next (x := ⟨k, B, e⟩) ((k + 1, q86.1, q86.2)) ?_ ?_ ?_ ?_
            · (try dsimp only) <;> exact (by omega)
            · (try dsimp only); exact (by omega)
            · exact ⟨(Sub.cons rfl (by first | rfl | (congr 1; omega) | simp) (Sub.cons rfl (by first | rfl | (congr 1; omega) | simp) (Sub.cons rfl (by first | rfl | (congr 1; omega) | simp) (Sub.cons rfl (by first | rfl | (congr 1; omega) | simp) (Sub.cons rfl (by first | rfl | (congr 1; omega) | simp) (Sub.cons rfl (by first | rfl | (congr 1; omega) | simp) (Sub.cons rfl (by first | rfl | (congr 1; omega) | simp) (Sub.nil _)))))))), rfl⟩
            · exact (fun _ h => lr_app1 (Nat.le_add_right _ _) hBA (Sats.keep [true, false, true, true, true, true] h))
          · skip
            refine pk_eff (eff_buildSlice (len := 1) (sz := 1) (z := #[.string ⟨#[]⟩]) rfl Try.underlying34 (by kernel_rfl) rfl rfl rfl (by decide) (by decide) rfl rfl) rfl rfl rfl (fun b85 _ => ?_)
            refine pk_eff (eff_append1 (sz := 1) (bytes := 16) (z := .string ⟨#[]⟩) 1 rfl Try.underlying34 (by kernel_rfl) rfl (by decide) (by decide) rfl rfl rfl (Ent.own 0 rfl) (by rw [reps_len]; rfl) rfl rfl (by omega)) rfl rfl rfl (fun q86 _ => ?_)
            refine pk_val rfl rfl rfl (val_assign rfl rfl) ?_
            refine pk_nil ?_
            refine in_on ?_
            refine thru_on ?_
            refine pk_region ?_
            refine pk_val rfl rfl rfl (val_move rfl rfl) ?_
            refine pk_val rfl rfl rfl (val_add rfl rfl rfl (by omega)) ?_
            refine pk_val rfl rfl rfl (val_assign rfl rfl) ?_
            refine pk_nil ?_
            refine thru_on ?_
            refine pk_next (x := ⟨k, B, e⟩) ((k + 1, q86.1, q86.2)) ?_ ?_ ?_ ?_
            · (try dsimp only) <;> exact (by omega)
            · (try dsimp only); exact (by omega)
            · exact ⟨(Sub.cons rfl (by first | rfl | (congr 1; omega) | simp) (Sub.cons rfl (by first | rfl | (congr 1; omega) | simp) (Sub.cons rfl (by first | rfl | (congr 1; omega) | simp) (Sub.cons rfl (by first | rfl | (congr 1; omega) | simp) (Sub.cons rfl (by first | rfl | (congr 1; omega) | simp) (Sub.cons rfl (by first | rfl | (congr 1; omega) | simp) (Sub.cons rfl (by first | rfl | (congr 1; omega) | simp) (Sub.nil _)))))))), rfl⟩
            · exact (fun _ h => lr_app2 (Sats.keep [false, true, true, true, true, true] h))
        · skip
          obtain rfl : k = 30 := by omega
          refine pk_exit ?_
          refine thru ?_
          refine thru ?_
          refine pk_here ?_
          refine thru_on ?_
          refine pk_region ?_
          refine pk_val rfl rfl rfl (val_move rfl rfl) ?_
          refine pk_val rfl rfl rfl (val_move rfl rfl) ?_
          refine pk_eff (eff_buildSlice (len := 1) (sz := 1) (z := #[.slice none 0 0]) rfl Try.underlying41 (by kernel_rfl) rfl rfl rfl (by decide) (by decide) rfl rfl) rfl rfl rfl (fun b89 _ => ?_)
          refine pk_eff (eff_append1 (sz := 1) (bytes := 24) (z := .slice none 0 0) 3 rfl Try.underlying41 (by kernel_rfl) rfl (by decide) (by decide) rfl rfl rfl (Ent.own 0 rfl) (by rw [longVm_len, Nat.mul_one]) rfl rfl (by omega)) rfl rfl rfl (fun q90 _ => ?_)
          refine pk_val rfl rfl rfl (val_assign rfl rfl) ?_
          refine pk_nil ?_
          refine in_on ?_
          refine thru_on ?_
          refine pk_region ?_
          refine pk_val rfl rfl rfl (val_move rfl rfl) ?_
          refine pk_val rfl rfl rfl (val_add rfl rfl rfl (by omega)) ?_
          refine pk_val rfl rfl rfl (val_assign rfl rfl) ?_
          refine pk_nil ?_
          refine thru_on ?_
          refine pk_next (x := ⟨done, q, d⟩) ((done ++ [(B, e)], q90.1, q90.2)) ?_ ?_ ?_ ?_
          · (try dsimp only) <;> exact (by simp; omega)
          · (try dsimp only); exact ((by simp only [List.length_append, List.length_singleton]; omega))
          · exact ⟨(Sub.cons rfl (by first | rfl | (congr 1; omega) | simp) (Sub.cons rfl (by first | rfl | (congr 1; omega) | simp) (Sub.cons rfl (by first | rfl | (congr 1; omega) | simp) (Sub.cons rfl (by simp) (Sub.cons rfl (by rw [hdi]; simp) (Sub.nil _)))))), rfl⟩
          · exact (fun _ h => by
            have h1 := ((Sats.pick 5 [3, 1, 2, 4] rfl h :))
            have h1 := Sats.under (fun _ h => h) h1
            rw [range_erase_congr (g' := gBm 9 1 mkS ls (done ++ [(B, e)])) (fun j hj hne => gBm_next (B, e) j hj (by omega))] at h1
            have h2 := Sats.under (fun _ h => Sats.num_push (g' := gBm 9 1 mkS ls (done ++ [(B, e)])) hi (by have e1 := gBm_last (T := 9) (s := 1) (mk := mkS) ls done (B, e); rw [← hdi] at e1; rw [e1]; exact h)) h1
            (try dsimp only)
            rw [List.length_append, List.length_singleton, longVm_snoc, ← hdi]
            rw [← hdi] at h2
            exact h2)
      · skip
        have hdl : done.length = ls.length := by omega
        rw [hdl]
        clear hdi
        obtain ⟨done1, e1⟩ : ∃ x, x = done := ⟨_, rfl⟩
        obtain ⟨q1, e2⟩ : ∃ x, x = q := ⟨_, rfl⟩
        obtain ⟨d1, e3⟩ : ∃ x, x = d := ⟨_, rfl⟩
        subst e1 e2 e3
        have hdl1 := hdl
        refine Pk.nilrow 44 1 ?_
        refine pk_exit ?_
        refine thru ?_
        refine thru ?_
        refine pk_here ?_
        refine thru_on ?_
        refine pk_seq ?_
        refine pk_seq ?_
        refine pk_region ?_
        refine pk_val rfl rfl rfl (val_assign rfl rfl) ?_
        refine pk_nil ?_
        refine thru_on ?_
        refine pk_block ?_
        refine pk_loop (α := List (Option Addr × Nat) × Option Addr × Nat) (([], none, 0)) (fun y => [(0, .slice Q ls.length cap), (1, .slice X xs.length xcap), (5, .slice q1 ls.length d1), (6, .slice y.2.1 y.1.length y.2.2), (14, .int .i64 (y.1.length : Nat))]) (fun y => (own y.2.1 y.1.length y.2.2 44 1 (longVm xs y.1 y.1.length)) :: (cat ((List.range xs.length).map (gBm 47 2 mkP xs y.1))) :: (own q1 ls.length d1 34 1 (longVm ls done1 ls.length)) :: (cat ((List.range ls.length).map (gBm 9 1 mkS ls done1))) :: L) (fun y => y.1.length ≤ xs.length) (fun y => xs.length - y.1.length) ?_ ?_ ?_ ?_
        · (try dsimp only) <;> exact Nat.zero_le _
        · exact ⟨(Sub.cons rfl (by first | rfl | (congr 1; omega) | simp) (Sub.cons rfl (by first | rfl | (congr 1; omega) | simp) (Sub.cons rfl (by first | rfl | (congr 1; omega) | simp) (Sub.cons rfl (by first | rfl | (congr 1; omega) | simp) (Sub.cons rfl (by first | rfl | (congr 1; omega) | simp) (Sub.nil _)))))), rfl⟩
        · exact (fun _ h => ((Sats.pick 4 [0, 3, 1, 2] rfl h :)))
        rintro ⟨done, q, d⟩ hd0
        dsimp only at hd0 ⊢
        obtain ⟨i, hdi⟩ : ∃ i, i = done.length := ⟨_, rfl⟩
        refine pk_seq ?_
        refine pk_seq ?_
        refine pk_region ?_
        refine pk_val rfl rfl rfl (val_move rfl rfl) ?_
        refine pk_val rfl rfl rfl (val_move rfl rfl) ?_
        refine pk_val rfl rfl rfl (val_len_slice rfl Try.underlying60 rfl) ?_
        refine pk_val rfl rfl rfl (val_lss rfl rfl rfl) ?_
        refine pk_nil ?_
        refine thru_on ?_
        refine pk_if rfl (fun h3 => ?_) (fun h3 => ?_)
        · skip
          refine pk_skip ?_
          refine thru_on ?_
          have hi : i < xs.length := by omega
          have hni := hnx _ (getD_mem dRow hi)
          refine Pk.tells (hX.cons.cons.cons.cons.some_of (by rw [List.length_map]; omega)) fun hA => ?_
          refine pk_seq ?_
          refine pk_block ?_
          refine pk_seq ?_
          refine pk_region ?_
          refine pk_val rfl rfl rfl (val_move rfl rfl) ?_
          refine pk_val rfl rfl rfl (val_move rfl rfl) ?_
          refine pk_val rfl rfl rfl (val_indexAddr rfl Try.underlying60 1 (by kernel_rfl) rfl rfl i (by rw [hdi]) hi (Ent.pure hA)) ?_
          refine pk_val rfl rfl rfl (val_load (v := rowV (xs.getD i dRow)) rfl Try.underlying44 rfl rfl (hX.cons.cons.cons.cons.rd (get_map dRow hi))) ?_
          refine pk_val rfl rfl rfl (val_assign rfl rfl) ?_
          refine pk_nil ?_
          refine thru_on ?_
          refine pk_seq ?_
          refine pk_seq ?_
          refine pk_region ?_
          refine pk_val rfl rfl rfl (val_assign rfl rfl) ?_
          refine pk_nil ?_
          refine thru_on ?_
          refine pk_block ?_
          refine pk_loop (α := Nat × Option Addr × Nat) ((0, (xs.getD i dRow).A, (xs.getD i dRow).c)) (fun y => [(0, .slice Q ls.length cap), (1, .slice X xs.length xcap), (5, .slice q1 ls.length d1), (6, .slice q done.length d), (14, .int .i64 (i : Nat)), (15, .slice y.2.1 ((xs.getD i dRow).n + y.1) y.2.2), (16, .int .i64 (y.1 : Nat))]) (fun y => (lr 47 2 (xs.getD i dRow).A (xs.getD i dRow).n y.2.1 ((xs.getD i dRow).n + y.1) y.2.2 (mkP i)) :: (cat (((List.range xs.length).eraseIdx i).map (gBm 47 2 mkP xs done))) :: (own q done.length d 44 1 (longVm xs done done.length)) :: (own q1 ls.length d1 34 1 (longVm ls done1 ls.length)) :: (cat ((List.range ls.length).map (gBm 9 1 mkS ls done1))) :: L) (fun y => y.1 ≤ 30) (fun y => 30 - y.1) ?_ ?_ ?_ ?_
          · (try dsimp only) <;> exact Nat.zero_le _
          · exact ⟨(Sub.cons rfl (by first | rfl | (congr 1; omega) | simp) (Sub.cons rfl (by first | rfl | (congr 1; omega) | simp) (Sub.cons rfl (by first | rfl | (congr 1; omega) | simp) (Sub.cons rfl (by first | rfl | (congr 1; omega) | simp) (Sub.cons rfl (by rw [hdi]) (Sub.cons rfl (by first | rfl | (congr 1; omega) | simp) (Sub.cons rfl (by first | rfl | (congr 1; omega) | simp) (Sub.nil _)))))))), rfl⟩
          · exact (fun _ h => by
            have h1 := Sats.num_pull (g' := gBm 47 2 mkP xs done) hi (fun _ _ _ => rfl) (Sats.pull 1 rfl h)
            have e1 := gBm_new (T := 47) (s := 2) (mk := mkP) xs done
            rw [← hdi] at e1
            rw [e1] at h1
            exact Sats.head (fun _ o => lr_start o) h1)
          rintro ⟨k, B, e⟩ hk0
          dsimp only at hk0 ⊢
          refine pk_seq ?_
          refine pk_seq ?_
          refine pk_region ?_
          refine pk_val rfl rfl rfl (val_move rfl rfl) ?_
          refine pk_val rfl rfl rfl (val_lss rfl rfl rfl) ?_
          refine pk_nil ?_
          refine thru_on ?_
          refine pk_if rfl (fun h4 => ?_) (fun h4 => ?_)
          · skip
            refine pk_skip ?_
            refine thru_on ?_
            refine pk_seq ?_
            refine pk_block ?_
            refine pk_region ?_
            refine pk_val rfl rfl rfl (val_move rfl rfl) ?_
            refine pk_val rfl rfl rfl (val_move rfl rfl) ?_
            refine pk_eff (eff_call1 rfl ⟨_, Try.func46, by kernel_rfl, rfl⟩ rfl (fun E w s => law05_mark_c s)) rfl rfl rfl (fun _ _ => ?_)
            refine pk_val rfl rfl rfl (val_build (z := [.string ⟨#[]⟩, .string ⟨#[]⟩]) [(0, 1), (1, 1)] rfl Try.underlying47 (by kernel_rfl) (by kernel_rfl) rfl rfl rfl) ?_
            refine Pk.pull 0 rfl ?_
            refine Pk.lr (fun hBA => ?_) ?_
            · skip
              refine pk_eff (eff_buildSlice (len := 1) (sz := 2) (z := #[.string ⟨#[]⟩, .string ⟨#[]⟩]) rfl Try.underlying44 (by kernel_rfl) rfl rfl rfl (by decide) (by decide) rfl rfl) rfl rfl rfl (fun b109 _ => ?_)
              refine pk_eff (eff_appendK1 (sz := 2) (bytes := 32) (z := .agg #[.string ⟨#[]⟩, .string ⟨#[]⟩]) 1 rfl Try.underlying44 (by kernel_rfl) rfl (by decide) (by decide) rfl rfl rfl (Ent.own 0 rfl) (by rw [reps_len]; rfl) rfl rfl (by omega)) rfl rfl rfl (fun q110 _ => ?_)
              refine pk_val rfl rfl rfl (val_assign rfl rfl) ?_
              refine pk_nil ?_
              refine in_on ?_
              refine thru_on ?_
              refine pk_region ?_
              refine pk_val rfl rfl rfl (val_move rfl rfl) ?_
              refine pk_val rfl rfl rfl (val_add rfl rfl rfl (by omega)) ?_
              refine pk_val rfl rfl rfl (val_assign rfl rfl) ?_
              refine pk_nil ?_
              refine thru_on ?_
              refine pk_next (x := ⟨k, B, e⟩) ((k + 1, q110.1, q110.2)) ?_ ?_ ?_ ?_
              · (try dsimp only) <;> exact (by omega)
              · (try dsimp only); exact (by omega)
              · exact ⟨(Sub.cons rfl (by first | rfl | (congr 1; omega) | simp) (Sub.cons rfl (by first | rfl | (congr 1; omega) | simp) (Sub.cons rfl (by first | rfl | (congr 1; omega) | simp) (Sub.cons rfl (by first | rfl | (congr 1; omega) | simp) (Sub.cons rfl (by first | rfl | (congr 1; omega) | simp) (Sub.cons rfl (by first | rfl | (congr 1; omega) | simp) (Sub.cons rfl (by first | rfl | (congr 1; omega) | simp) (Sub.nil _)))))))), rfl⟩
              · exact (fun _ h => lr_app1 (Nat.le_add_right _ _) hBA (Sats.keep [true, false, true, true, true, true, true] h))
            · skip
              refine pk_eff (eff_buildSlice (len := 1) (sz := 2) (z := #[.string ⟨#[]⟩, .string ⟨#[]⟩]) rfl Try.underlying44 (by kernel_rfl) rfl rfl rfl (by decide) (by decide) rfl rfl) rfl rfl rfl (fun b109 _ => ?_)
              refine pk_eff (eff_append1 (sz := 2) (bytes := 32) (z := .agg #[.string ⟨#[]⟩, .string ⟨#[]⟩]) 1 rfl Try.underlying44 (by kernel_rfl) rfl (by decide) (by decide) rfl rfl rfl (Ent.own 0 rfl) (by rw [reps_len]; rfl) rfl rfl (by omega)) rfl rfl rfl (fun q110 _ => ?_)
              refine pk_val rfl rfl rfl (val_assign rfl rfl) ?_
              refine pk_nil ?_
              refine in_on ?_
              refine thru_on ?_
              refine pk_region ?_
              refine pk_val rfl rfl rfl (val_move rfl rfl) ?_
              refine pk_val rfl rfl rfl (val_add rfl rfl rfl (by omega)) ?_
              refine pk_val rfl rfl rfl (val_assign rfl rfl) ?_
              refine pk_nil ?_
              refine thru_on ?_
              refine pk_next (x := ⟨k, B, e⟩) ((k + 1, q110.1, q110.2)) ?_ ?_ ?_ ?_
              · (try dsimp only) <;> exact (by omega)
              · (try dsimp only); exact (by omega)
              · exact ⟨(Sub.cons rfl (by first | rfl | (congr 1; omega) | simp) (Sub.cons rfl (by first | rfl | (congr 1; omega) | simp) (Sub.cons rfl (by first | rfl | (congr 1; omega) | simp) (Sub.cons rfl (by first | rfl | (congr 1; omega) | simp) (Sub.cons rfl (by first | rfl | (congr 1; omega) | simp) (Sub.cons rfl (by first | rfl | (congr 1; omega) | simp) (Sub.cons rfl (by first | rfl | (congr 1; omega) | simp) (Sub.nil _)))))))), rfl⟩
              · exact (fun _ h => lr_app2 (Sats.keep [false, true, true, true, true, true, true] h))
          · skip
            obtain rfl : k = 30 := by omega
            refine pk_exit ?_
            refine thru ?_
            refine thru ?_
            refine pk_here ?_
            refine thru_on ?_
            refine pk_region ?_
            refine pk_val rfl rfl rfl (val_move rfl rfl) ?_
            refine pk_val rfl rfl rfl (val_move rfl rfl) ?_
            refine pk_eff (eff_buildSlice (len := 1) (sz := 1) (z := #[.slice none 0 0]) rfl Try.underlying60 (by kernel_rfl) rfl rfl rfl (by decide) (by decide) rfl rfl) rfl rfl rfl (fun b113 _ => ?_)
            refine pk_eff (eff_append1 (sz := 1) (bytes := 24) (z := .slice none 0 0) 3 rfl Try.underlying60 (by kernel_rfl) rfl (by decide) (by decide) rfl rfl rfl (Ent.own 0 rfl) (by rw [longVm_len, Nat.mul_one]) rfl rfl (by omega)) rfl rfl rfl (fun q114 _ => ?_)
            refine pk_val rfl rfl rfl (val_assign rfl rfl) ?_
            refine pk_nil ?_
            refine in_on ?_
            refine thru_on ?_
            refine pk_region ?_
            refine pk_val rfl rfl rfl (val_move rfl rfl) ?_
            refine pk_val rfl rfl rfl (val_add rfl rfl rfl (by omega)) ?_
            refine pk_val rfl rfl rfl (val_assign rfl rfl) ?_
            refine pk_nil ?_
            refine thru_on ?_
            refine pk_next (x := ⟨done, q, d⟩) ((done ++ [(B, e)], q114.1, q114.2)) ?_ ?_ ?_ ?_
            · (try dsimp only) <;> exact (by simp; omega)
            · (try dsimp only); exact ((by simp only [List.length_append, List.length_singleton]; omega))
            · exact ⟨(Sub.cons rfl (by first | rfl | (congr 1; omega) | simp) (Sub.cons rfl (by first | rfl | (congr 1; omega) | simp) (Sub.cons rfl (by first | rfl | (congr 1; omega) | simp) (Sub.cons rfl (by simp) (Sub.cons rfl (by rw [hdi]; simp) (Sub.nil _)))))), rfl⟩
            · exact (fun _ h => by
              have h1 := ((Sats.pick 6 [3, 1, 2, 4, 5] rfl h :))
              have h1 := Sats.under (fun _ h => h) h1
              rw [range_erase_congr (g' := gBm 47 2 mkP xs (done ++ [(B, e)])) (fun j hj hne => gBm_next (B, e) j hj (by omega))] at h1
              have h2 := Sats.under (fun _ h => Sats.num_push (g' := gBm 47 2 mkP xs (done ++ [(B, e)])) hi (by have e1 := gBm_last (T := 47) (s := 2) (mk := mkP) xs done (B, e); rw [← hdi] at e1; rw [e1]; exact h)) h1
              (try dsimp only)
              rw [List.length_append, List.length_singleton, longVm_snoc, ← hdi]
              rw [← hdi] at h2
              exact h2)
        · skip
          have hdl2 : done.length = xs.length := by omega
          rw [hdl2]
          clear hdi
          obtain ⟨done2, e1⟩ : ∃ x, x = done := ⟨_, rfl⟩
          obtain ⟨q2, e2⟩ : ∃ x, x = q := ⟨_, rfl⟩
          obtain ⟨d2, e3⟩ : ∃ x, x = d := ⟨_, rfl⟩
          subst e1 e2 e3
          have hdl3 := hdl2
          refine pk_exit ?_
          refine thru ?_
          refine thru ?_
          refine pk_here ?_
          refine thru_on ?_
          refine pk_seq ?_
          refine pk_seq ?_
          refine pk_region ?_
          refine pk_val rfl rfl rfl (val_assign rfl rfl) ?_
          refine pk_nil ?_
          refine thru_on ?_
          refine pk_block ?_
          refine pk_loop (α := Nat) (0) (fun i => [(0, .slice Q ls.length cap), (1, .slice X xs.length xcap), (5, .slice q1 ls.length d1), (6, .slice q2 xs.length d2), (17, .int .i64 (i : Nat))]) (fun i => (own q1 ls.length d1 34 1 (longVm ls done1 ls.length)) :: (cat ((List.range ls.length).map (gBm 9 1 mkS ls done1))) :: (own q2 xs.length d2 44 1 (longVm xs done2 xs.length)) :: (cat ((List.range xs.length).map (gBm 47 2 mkP xs done2))) :: L) (fun i => i ≤ ls.length) (fun i => ls.length - i) ?_ ?_ ?_ ?_
          · (try dsimp only) <;> exact Nat.zero_le _
          · exact ⟨(Sub.cons rfl (by first | rfl | (congr 1; omega) | simp) (Sub.cons rfl (by first | rfl | (congr 1; omega) | simp) (Sub.cons rfl (by first | rfl | (congr 1; omega) | simp) (Sub.cons rfl (by first | rfl | (congr 1; omega) | simp) (Sub.cons rfl (by first | rfl | (congr 1; omega) | simp) (Sub.nil _)))))), rfl⟩
          · exact (fun _ h => (Sats.pick 4 [2, 3, 0, 1] rfl h :))
          rintro i hi0
          refine pk_seq ?_
          refine pk_seq ?_
          refine pk_region ?_
          refine pk_val rfl rfl rfl (val_move rfl rfl) ?_
          refine pk_val rfl rfl rfl (val_move rfl rfl) ?_
          refine pk_val rfl rfl rfl (val_len_slice rfl Try.underlying41 rfl) ?_
          refine pk_val rfl rfl rfl (val_lss rfl rfl rfl) ?_
          refine pk_nil ?_
          refine thru_on ?_
          refine pk_if rfl (fun h5 => ?_) (fun h5 => ?_)
          · skip
            refine pk_skip ?_
            refine thru_on ?_
            have hi : i < ls.length := by omega
            have hni := hn _ (getD_mem dRow hi)
            refine Pk.tells (hQ.cons.cons.cons.cons.some_of (by rw [List.length_map]; omega)) fun hA => ?_
            refine Pk.tells ((Ent.own 0 rfl).some_of (by rw [longVm_len]; omega)) fun hG => ?_
            obtain ⟨n, hnn⟩ : ∃ n, n = (ls.getD i dRow).n := ⟨_, rfl⟩
            refine pk_seq ?_
            refine pk_block ?_
            refine pk_seq ?_
            refine pk_region ?_
            refine pk_val rfl rfl rfl (val_assign rfl rfl) ?_
            refine pk_nil ?_
            refine thru_on ?_
            refine pk_block ?_
            refine pk_loop (α := Nat) (0) (fun k => [(0, .slice Q ls.length cap), (1, .slice X xs.length xcap), (5, .slice q1 ls.length d1), (6, .slice q2 xs.length d2), (17, .int .i64 (i : Nat)), (18, .int .i64 (k : Nat))]) (fun k => (own q1 ls.length d1 34 1 (longVm ls done1 ls.length)) :: (cat ((List.range ls.length).map (gBm 9 1 mkS ls done1))) :: (own q2 xs.length d2 44 1 (longVm xs done2 xs.length)) :: (cat ((List.range xs.length).map (gBm 47 2 mkP xs done2))) :: L) (fun k => k ≤ n + 30) (fun k => n + 30 - k) ?_ ?_ ?_ ?_
            · (try dsimp only) <;> exact Nat.zero_le _
            · exact ⟨(Sub.cons rfl (by first | rfl | (congr 1; omega) | simp) (Sub.cons rfl (by first | rfl | (congr 1; omega) | simp) (Sub.cons rfl (by first | rfl | (congr 1; omega) | simp) (Sub.cons rfl (by first | rfl | (congr 1; omega) | simp) (Sub.cons rfl (by first | rfl | (congr 1; omega) | simp) (Sub.cons rfl (by first | rfl | (congr 1; omega) | simp) (Sub.nil _))))))), rfl⟩
            · exact (fun _ h => h)
            rintro k hk0
            have hlong := gBm_long (L := (own q1 ls.length d1 34 1 (longVm ls done1 ls.length)) :: (cat ((List.range ls.length).map (gBm 9 1 mkS ls done1))) :: (own q2 xs.length d2 44 1 (longVm xs done2 xs.length)) :: (cat ((List.range xs.length).map (gBm 47 2 mkP xs done2))) :: L) (i := i) 1 rfl hi hdl1
            have hshort := gBm_short (L := (own q1 ls.length d1 34 1 (longVm ls done1 ls.length)) :: (cat ((List.range ls.length).map (gBm 9 1 mkS ls done1))) :: (own q2 xs.length d2 44 1 (longVm xs done2 xs.length)) :: (cat ((List.range xs.length).map (gBm 47 2 mkP xs done2))) :: L) (i := i) 1 rfl hi hdl1
            refine pk_seq ?_
            refine pk_seq ?_
            refine pk_region ?_
            refine pk_val rfl rfl rfl (val_move rfl rfl) ?_
            refine pk_val rfl rfl rfl (val_move rfl rfl) ?_
            refine pk_val rfl rfl rfl (val_move rfl rfl) ?_
            refine pk_val rfl rfl rfl (val_indexAddr rfl Try.underlying41 1 (by kernel_rfl) rfl rfl i rfl hi (Ent.pure hG)) ?_
            refine pk_val rfl rfl rfl (val_load rfl Try.underlying34 rfl rfl ((Ent.own 0 rfl).rd (by rw [Nat.mul_one]; exact longVm_get hi))) ?_
            refine pk_val rfl rfl rfl (val_len_slice rfl Try.underlying34 rfl) ?_
            refine pk_val rfl rfl rfl (val_lss rfl rfl rfl) ?_
            refine pk_nil ?_
            refine thru_on ?_
            refine pk_if rfl (fun h6 => ?_) (fun h6 => ?_)
            · skip
              refine pk_skip ?_
              refine thru_on ?_
              have hk : k < (ls.getD i dRow).n + 30 := by omega
              refine Pk.tells (hlong.some_of (by rw [reps_len, show (mkS i).length = 1 from rfl]; omega)) fun hA2 => ?_
              refine pk_seq ?_
              refine pk_block ?_
              refine pk_seq ?_
              refine pk_drawk (.val 0 (.val 1 (.val 2 (.val 3 (.val 4 (.val 5 (.val 6 (.val 7 (.eff 8 (.val 9 (.val 10 (.val 11 (.val 12 (.val 13 (.val 14 (.val 15 (.val 16 (.val 17 (.val 18 (.val 19 (.val 20 (.val 21 (.val 22 (.val 23 (.val 24 (.val 25 (.val 26 (.eff 27 (.val 28 (.val 29 (.val 30 .nil))))))))))))))))))))))))))))))) 1031 [] rfl (by kernel_rfl) (fun _ _ _ _ _ h => h) ?_
              refine ord_val rfl rfl rfl rfl (fun _ h => h) (val_move rfl rfl) ?_
              refine ord_val rfl rfl rfl rfl (fun _ h => h) (val_move rfl rfl) ?_
              refine ord_val rfl rfl rfl rfl (fun _ h => h) (val_indexAddr rfl Try.underlying41 1 (by kernel_rfl) rfl rfl i rfl hi (Ent.pure hG)) ?_
              refine ord_val rfl rfl rfl rfl (fun _ h => h) (val_load rfl Try.underlying34 rfl rfl ((Ent.own 0 rfl).rd (by rw [Nat.mul_one]; exact longVm_get hi))) ?_
              refine ord_val rfl rfl rfl rfl (fun _ h => h) (val_move rfl rfl) ?_
              refine ord_val rfl rfl rfl rfl (fun _ h => h) (val_indexAddr rfl Try.underlying34 1 (by kernel_rfl) rfl rfl k rfl hk (Ent.pure hA2)) ?_
              refine ord_val rfl rfl rfl rfl (fun _ h => h) (val_load rfl Try.underlying9 rfl rfl (hlong.rd (reps_get1 hk))) ?_
              refine ord_val rfl rfl rfl rfl (fun _ h => h) (val_move rfl rfl) ?_
              refine ord_eff (eff_call1 rfl ⟨_, Try.func46, by kernel_rfl, rfl⟩ rfl (fun E w s => law05_mark_c s)) rfl rfl rfl rfl (.inr fun _ _ => (fun _ h => h)) (fun _ _ => ?_)
              refine ord_val rfl rfl rfl rfl (fun _ h => h) (val_str_neq rfl rfl rfl) ?_
              refine Pk.slot 139 (v := .bool false) rfl (congrArg Value.bool (decide_eq_false (fun h => h rfl))) ?_
              refine ord_val rfl rfl rfl rfl (fun _ h => h) (val_move rfl rfl) ?_
              refine ord_val_yes rfl rfl rfl rfl rfl rfl (fun _ h => h) (val_move rfl rfl) ?_
              refine ord_val_yes rfl rfl rfl rfl rfl rfl (fun _ h => h) (val_move rfl rfl) ?_
              refine ord_val_yes rfl rfl rfl rfl rfl rfl (fun _ h => h) (val_move rfl rfl) ?_
              refine ord_val_yes rfl rfl rfl rfl rfl rfl (fun _ h => h) (val_indexAddr rfl Try.underlying41 1 (by kernel_rfl) rfl rfl i rfl hi (Ent.pure hA)) ?_
              refine ord_val_yes rfl rfl rfl rfl rfl rfl (fun _ h => h) (val_load (v := rowV (ls.getD i dRow)) rfl Try.underlying34 rfl rfl (hQ.cons.cons.cons.cons.rd (get_map dRow hi))) ?_
              refine ord_val_yes rfl rfl rfl rfl rfl rfl (fun _ h => h) (val_len_slice rfl Try.underlying34 rfl) ?_
              refine ord_val_yes rfl rfl rfl rfl rfl rfl (fun _ h => h) (val_lss rfl rfl rfl) ?_
              refine ord_val_yes rfl rfl rfl rfl rfl rfl (fun _ h => h) (val_move rfl rfl) ?_
              by_cases hkn : k < (ls.getD i dRow).n
              · skip
                refine Pk.slot 148 (v := .bool true) rfl (congrArg Value.bool (decide_eq_true (by omega))) ?_
                refine Pk.tells (hshort.some_of (by rw [reps_len, show (mkS i).length = 1 from rfl]; omega)) fun hA3 => ?_
                refine ord_val_yes rfl rfl rfl rfl rfl rfl (fun _ h => h) (val_move rfl rfl) ?_
                refine ord_val_yes rfl rfl rfl rfl rfl rfl (fun _ h => h) (val_move rfl rfl) ?_
                refine ord_val_yes rfl rfl rfl rfl rfl rfl (fun _ h => h) (val_indexAddr rfl Try.underlying41 1 (by kernel_rfl) rfl rfl i rfl hi (Ent.pure hA)) ?_
                refine ord_val_yes rfl rfl rfl rfl rfl rfl (fun _ h => h) (val_load (v := rowV (ls.getD i dRow)) rfl Try.underlying34 rfl rfl (hQ.cons.cons.cons.cons.rd (get_map dRow hi))) ?_
                refine ord_val_yes rfl rfl rfl rfl rfl rfl (fun _ h => h) (val_move rfl rfl) ?_
                refine ord_val_yes rfl rfl rfl rfl rfl rfl (fun _ h => h) (val_indexAddr rfl Try.underlying34 1 (by kernel_rfl) rfl rfl k rfl hkn (Ent.pure hA3)) ?_
                refine ord_val_yes rfl rfl rfl rfl rfl rfl (fun _ h => h) (val_load rfl Try.underlying9 rfl rfl (hshort.rd (reps_get1 hkn))) ?_
                refine ord_val_yes rfl rfl rfl rfl rfl rfl (fun _ h => h) (val_move rfl rfl) ?_
                refine ord_eff_yes (eff_call1 rfl ⟨_, Try.func46, by kernel_rfl, rfl⟩ rfl (fun E w s => law05_mark_c s)) rfl rfl rfl rfl rfl rfl (.inr fun _ _ => (fun _ h => h)) (fun _ _ => ?_)
                refine ord_val_yes rfl rfl rfl rfl rfl rfl (fun _ h => h) (val_str_neq rfl rfl rfl) ?_
                first | refine Pk.slot 158 (v := .bool false) rfl (congrArg Value.bool (decide_eq_false (fun h => h rfl))) ?_ | skip
                refine ord_val_yes rfl rfl rfl rfl rfl rfl (fun _ h => h) (val_pick rfl rfl rfl rfl) ?_
                refine ord_val rfl rfl rfl rfl (fun _ h => h) (val_pick rfl rfl rfl rfl) ?_
                refine ord_nil ?_
                refine thru_on ?_
                refine pk_cond_f rfl ?_
                refine pk_skip ?_
                refine in_on ?_
                refine thru_on ?_
                refine pk_region ?_
                refine pk_val rfl rfl rfl (val_move rfl rfl) ?_
                refine pk_val rfl rfl rfl (val_add rfl rfl rfl (by omega)) ?_
                refine pk_val rfl rfl rfl (val_assign rfl rfl) ?_
                refine pk_nil ?_
                refine thru_on ?_
                refine pk_next (x := k) (k + 1) ?_ ?_ ?_ ?_
                · (try dsimp only) <;> exact (by omega)
                · (try dsimp only); exact (by omega)
                · exact ⟨(Sub.cons rfl (by first | rfl | (congr 1; omega) | simp) (Sub.cons rfl (by first | rfl | (congr 1; omega) | simp) (Sub.cons rfl (by first | rfl | (congr 1; omega) | simp) (Sub.cons rfl (by first | rfl | (congr 1; omega) | simp) (Sub.cons rfl (by first | rfl | (congr 1; omega) | simp) (Sub.cons rfl (by first | rfl | (congr 1; omega) | simp) (Sub.nil _))))))), rfl⟩
                · exact (fun _ h => h)
              · skip
                refine Pk.slot 148 (v := .bool false) rfl (congrArg Value.bool (decide_eq_false (by omega))) ?_
                refine ord_val_no rfl rfl rfl rfl rfl rfl rfl (fun _ h => h) ?_
                refine ord_val_no rfl rfl rfl rfl rfl rfl rfl (fun _ h => h) ?_
                refine ord_val_no rfl rfl rfl rfl rfl rfl rfl (fun _ h => h) ?_
                refine ord_val_no rfl rfl rfl rfl rfl rfl rfl (fun _ h => h) ?_
                refine ord_val_no rfl rfl rfl rfl rfl rfl rfl (fun _ h => h) ?_
                refine ord_val_no rfl rfl rfl rfl rfl rfl rfl (fun _ h => h) ?_
                refine ord_val_no rfl rfl rfl rfl rfl rfl rfl (fun _ h => h) ?_
                refine ord_val_no rfl rfl rfl rfl rfl rfl rfl (fun _ h => h) ?_
                refine ord_eff_no rfl rfl rfl rfl rfl rfl rfl (fun _ h => h) ?_
                refine ord_val_no rfl rfl rfl rfl rfl rfl rfl (fun _ h => h) ?_
                first | refine Pk.slot 158 (v := .bool false) rfl (congrArg Value.bool (decide_eq_false (fun h => h rfl))) ?_ | skip
                refine ord_val_yes rfl rfl rfl rfl rfl rfl (fun _ h => h) (val_pick rfl rfl rfl rfl) ?_
                refine ord_val rfl rfl rfl rfl (fun _ h => h) (val_pick rfl rfl rfl rfl) ?_
                refine ord_nil ?_
                refine thru_on ?_
                refine pk_cond_f rfl ?_
                refine pk_skip ?_
                refine in_on ?_
                refine thru_on ?_
                refine pk_region ?_
                refine pk_val rfl rfl rfl (val_move rfl rfl) ?_
                refine pk_val rfl rfl rfl (val_add rfl rfl rfl (by omega)) ?_
                refine pk_val rfl rfl rfl (val_assign rfl rfl) ?_
                refine pk_nil ?_
                refine thru_on ?_
                refine pk_next (x := k) (k + 1) ?_ ?_ ?_ ?_
                · (try dsimp only) <;> exact (by omega)
                · (try dsimp only); exact (by omega)
                · exact ⟨(Sub.cons rfl (by first | rfl | (congr 1; omega) | simp) (Sub.cons rfl (by first | rfl | (congr 1; omega) | simp) (Sub.cons rfl (by first | rfl | (congr 1; omega) | simp) (Sub.cons rfl (by first | rfl | (congr 1; omega) | simp) (Sub.cons rfl (by first | rfl | (congr 1; omega) | simp) (Sub.cons rfl (by first | rfl | (congr 1; omega) | simp) (Sub.nil _))))))), rfl⟩
                · exact (fun _ h => h)
            · skip
              refine pk_exit ?_
              refine thru ?_
              refine thru ?_
              refine pk_here ?_
              refine in_on ?_
              refine thru_on ?_
              refine pk_region ?_
              refine pk_val rfl rfl rfl (val_move rfl rfl) ?_
              refine pk_val rfl rfl rfl (val_add rfl rfl rfl (by omega)) ?_
              refine pk_val rfl rfl rfl (val_assign rfl rfl) ?_
              refine pk_nil ?_
              refine thru_on ?_
              refine pk_next (x := i) (i + 1) ?_ ?_ ?_ ?_
              · (try dsimp only) <;> exact hi
              · (try dsimp only); exact (by omega)
              · exact ⟨(Sub.cons rfl (by first | rfl | (congr 1; omega) | simp) (Sub.cons rfl (by first | rfl | (congr 1; omega) | simp) (Sub.cons rfl (by first | rfl | (congr 1; omega) | simp) (Sub.cons rfl (by first | rfl | (congr 1; omega) | simp) (Sub.cons rfl (by first | rfl | (congr 1; omega) | simp) (Sub.nil _)))))), rfl⟩
              · exact (fun _ h => h)
          · skip
            refine pk_exit ?_
            refine thru ?_
            refine thru ?_
            refine pk_here ?_
            refine thru_on ?_
            refine pk_seq ?_
            refine pk_seq ?_
            refine pk_region ?_
            refine pk_val rfl rfl rfl (val_assign rfl rfl) ?_
            refine pk_nil ?_
            refine thru_on ?_
            refine pk_block ?_
            refine pk_loop (α := Nat) (0) (fun i => [(0, .slice Q ls.length cap), (1, .slice X xs.length xcap), (5, .slice q1 ls.length d1), (6, .slice q2 xs.length d2), (19, .int .i64 (i : Nat))]) (fun i => (own q1 ls.length d1 34 1 (longVm ls done1 ls.length)) :: (cat ((List.range ls.length).map (gBm 9 1 mkS ls done1))) :: (own q2 xs.length d2 44 1 (longVm xs done2 xs.length)) :: (cat ((List.range xs.length).map (gBm 47 2 mkP xs done2))) :: L) (fun i => i ≤ xs.length) (fun i => xs.length - i) ?_ ?_ ?_ ?_
            · (try dsimp only) <;> exact Nat.zero_le _
            · exact ⟨(Sub.cons rfl (by first | rfl | (congr 1; omega) | simp) (Sub.cons rfl (by first | rfl | (congr 1; omega) | simp) (Sub.cons rfl (by first | rfl | (congr 1; omega) | simp) (Sub.cons rfl (by first | rfl | (congr 1; omega) | simp) (Sub.cons rfl (by first | rfl | (congr 1; omega) | simp) (Sub.nil _)))))), rfl⟩
            · exact (fun _ h => h)
            rintro i hi0
            refine pk_seq ?_
            refine pk_seq ?_
            refine pk_region ?_
            refine pk_val rfl rfl rfl (val_move rfl rfl) ?_
            refine pk_val rfl rfl rfl (val_move rfl rfl) ?_
            refine pk_val rfl rfl rfl (val_len_slice rfl Try.underlying60 rfl) ?_
            refine pk_val rfl rfl rfl (val_lss rfl rfl rfl) ?_
            refine pk_nil ?_
            refine thru_on ?_
            refine pk_if rfl (fun h5 => ?_) (fun h5 => ?_)
            · skip
              refine pk_skip ?_
              refine thru_on ?_
              have hi : i < xs.length := by omega
              have hni := hnx _ (getD_mem dRow hi)
              refine Pk.tells (hX.cons.cons.cons.cons.some_of (by rw [List.length_map]; omega)) fun hA => ?_
              refine Pk.tells ((Ent.own 2 rfl).some_of (by rw [longVm_len]; omega)) fun hG => ?_
              obtain ⟨n, hnn⟩ : ∃ n, n = (xs.getD i dRow).n := ⟨_, rfl⟩
              refine pk_seq ?_
              refine pk_block ?_
              refine pk_seq ?_
              refine pk_region ?_
              refine pk_val rfl rfl rfl (val_assign rfl rfl) ?_
              refine pk_nil ?_
              refine thru_on ?_
              refine pk_block ?_
              refine pk_loop (α := Nat) (0) (fun k => [(0, .slice Q ls.length cap), (1, .slice X xs.length xcap), (5, .slice q1 ls.length d1), (6, .slice q2 xs.length d2), (19, .int .i64 (i : Nat)), (20, .int .i64 (k : Nat))]) (fun k => (own q1 ls.length d1 34 1 (longVm ls done1 ls.length)) :: (cat ((List.range ls.length).map (gBm 9 1 mkS ls done1))) :: (own q2 xs.length d2 44 1 (longVm xs done2 xs.length)) :: (cat ((List.range xs.length).map (gBm 47 2 mkP xs done2))) :: L) (fun k => k ≤ n + 30) (fun k => n + 30 - k) ?_ ?_ ?_ ?_
              · (try dsimp only) <;> exact Nat.zero_le _
              · exact ⟨(Sub.cons rfl (by first | rfl | (congr 1; omega) | simp) (Sub.cons rfl (by first | rfl | (congr 1; omega) | simp) (Sub.cons rfl (by first | rfl | (congr 1; omega) | simp) (Sub.cons rfl (by first | rfl | (congr 1; omega) | simp) (Sub.cons rfl (by first | rfl | (congr 1; omega) | simp) (Sub.cons rfl (by first | rfl | (congr 1; omega) | simp) (Sub.nil _))))))), rfl⟩
              · exact (fun _ h => h)
              rintro k hk0
              have hlong := gBm_long (L := (own q1 ls.length d1 34 1 (longVm ls done1 ls.length)) :: (cat ((List.range ls.length).map (gBm 9 1 mkS ls done1))) :: (own q2 xs.length d2 44 1 (longVm xs done2 xs.length)) :: (cat ((List.range xs.length).map (gBm 47 2 mkP xs done2))) :: L) (i := i) 3 rfl hi hdl2
              have hshort := gBm_short (L := (own q1 ls.length d1 34 1 (longVm ls done1 ls.length)) :: (cat ((List.range ls.length).map (gBm 9 1 mkS ls done1))) :: (own q2 xs.length d2 44 1 (longVm xs done2 xs.length)) :: (cat ((List.range xs.length).map (gBm 47 2 mkP xs done2))) :: L) (i := i) 3 rfl hi hdl2
              refine pk_seq ?_
              refine pk_seq ?_
              refine pk_region ?_
              refine pk_val rfl rfl rfl (val_move rfl rfl) ?_
              refine pk_val rfl rfl rfl (val_move rfl rfl) ?_
              refine pk_val rfl rfl rfl (val_move rfl rfl) ?_
              refine pk_val rfl rfl rfl (val_indexAddr rfl Try.underlying60 1 (by kernel_rfl) rfl rfl i rfl hi (Ent.pure hG)) ?_
              refine pk_val rfl rfl rfl (val_load rfl Try.underlying44 rfl rfl ((Ent.own 2 rfl).rd (by rw [Nat.mul_one]; exact longVm_get hi))) ?_
              refine pk_val rfl rfl rfl (val_len_slice rfl Try.underlying44 rfl) ?_
              refine pk_val rfl rfl rfl (val_lss rfl rfl rfl) ?_
              refine pk_nil ?_
              refine thru_on ?_
              refine pk_if rfl (fun h6 => ?_) (fun h6 => ?_)
              · skip
                refine pk_skip ?_
                refine thru_on ?_
                have hk : k < (xs.getD i dRow).n + 30 := by omega
                refine Pk.tells (hlong.some_of (by rw [reps_len, show (mkP i).length = 2 from rfl]; omega)) fun hA2 => ?_
                refine pk_seq ?_
                refine pk_block ?_
                refine pk_seq ?_
                refine pk_drawk (.val 0 (.val 1 (.val 2 (.val 3 (.val 4 (.val 5 (.val 6 (.val 7 (.val 8 (.eff 9 (.val 10 (.val 11 (.val 12 (.val 13 (.val 14 (.val 15 (.val 16 (.val 17 (.val 18 (.val 19 (.val 20 (.val 21 (.val 22 (.val 23 (.val 24 (.val 25 (.val 26 (.val 27 (.val 28 (.eff 29 (.val 30 (.val 31 (.val 32 .nil))))))))))))))))))))))))))))))))) 1033 [] rfl (by kernel_rfl) (fun _ _ _ _ _ h => h) ?_
                refine ord_val rfl rfl rfl rfl (fun _ h => h) (val_move rfl rfl) ?_
                refine ord_val rfl rfl rfl rfl (fun _ h => h) (val_move rfl rfl) ?_
                refine ord_val rfl rfl rfl rfl (fun _ h => h) (val_indexAddr rfl Try.underlying60 1 (by kernel_rfl) rfl rfl i rfl hi (Ent.pure hG)) ?_
                refine ord_val rfl rfl rfl rfl (fun _ h => h) (val_load rfl Try.underlying44 rfl rfl ((Ent.own 2 rfl).rd (by rw [Nat.mul_one]; exact longVm_get hi))) ?_
                refine ord_val rfl rfl rfl rfl (fun _ h => h) (val_move rfl rfl) ?_
                refine ord_val rfl rfl rfl rfl (fun _ h => h) (val_indexAddr rfl Try.underlying44 2 (by kernel_rfl) rfl rfl k rfl hk (Ent.pure hA2)) ?_
                refine ord_val rfl rfl rfl rfl (fun _ h => h) (val_fieldAddr rfl Try.underlying47 0 1 (by kernel_rfl) (by decide) rfl (Ent.pure (by first | rfl | assumption))) ?_
                refine ord_val rfl rfl rfl rfl (fun _ h => h) (val_load (v := .string (mark5 i)) rfl Try.underlying9 rfl rfl (hlong.rd ((reps_get (mk := mkP i) (j := 0) hk (Nat.zero_lt_succ 1)).trans rfl))) ?_
                refine ord_val rfl rfl rfl rfl (fun _ h => h) (val_move rfl rfl) ?_
                refine ord_eff (eff_call1 rfl ⟨_, Try.func46, by kernel_rfl, rfl⟩ rfl (fun E w s => law05_mark_c s)) rfl rfl rfl rfl (.inr fun _ _ => (fun _ h => h)) (fun _ _ => ?_)
                refine ord_val rfl rfl rfl rfl (fun _ h => h) (val_str_neq rfl rfl rfl) ?_
                refine Pk.slot 186 (v := .bool false) rfl (congrArg Value.bool (decide_eq_false (fun h => h rfl))) ?_
                refine ord_val rfl rfl rfl rfl (fun _ h => h) (val_move rfl rfl) ?_
                refine ord_val_yes rfl rfl rfl rfl rfl rfl (fun _ h => h) (val_move rfl rfl) ?_
                refine ord_val_yes rfl rfl rfl rfl rfl rfl (fun _ h => h) (val_move rfl rfl) ?_
                refine ord_val_yes rfl rfl rfl rfl rfl rfl (fun _ h => h) (val_move rfl rfl) ?_
                refine ord_val_yes rfl rfl rfl rfl rfl rfl (fun _ h => h) (val_indexAddr rfl Try.underlying60 1 (by kernel_rfl) rfl rfl i rfl hi (Ent.pure hA)) ?_
                refine ord_val_yes rfl rfl rfl rfl rfl rfl (fun _ h => h) (val_load (v := rowV (xs.getD i dRow)) rfl Try.underlying44 rfl rfl (hX.cons.cons.cons.cons.rd (get_map dRow hi))) ?_
                refine ord_val_yes rfl rfl rfl rfl rfl rfl (fun _ h => h) (val_len_slice rfl Try.underlying44 rfl) ?_
                refine ord_val_yes rfl rfl rfl rfl rfl rfl (fun _ h => h) (val_lss rfl rfl rfl) ?_
                refine ord_val_yes rfl rfl rfl rfl rfl rfl (fun _ h => h) (val_move rfl rfl) ?_
                by_cases hkn : k < (xs.getD i dRow).n
                · skip
                  refine Pk.slot 195 (v := .bool true) rfl (congrArg Value.bool (decide_eq_true (by omega))) ?_
                  refine Pk.tells (hshort.some_of (by rw [reps_len, show (mkP i).length = 2 from rfl]; omega)) fun hA3 => ?_
                  refine ord_val_yes rfl rfl rfl rfl rfl rfl (fun _ h => h) (val_move rfl rfl) ?_
                  refine ord_val_yes rfl rfl rfl rfl rfl rfl (fun _ h => h) (val_move rfl rfl) ?_
                  refine ord_val_yes rfl rfl rfl rfl rfl rfl (fun _ h => h) (val_indexAddr rfl Try.underlying60 1 (by kernel_rfl) rfl rfl i rfl hi (Ent.pure hA)) ?_
                  refine ord_val_yes rfl rfl rfl rfl rfl rfl (fun _ h => h) (val_load (v := rowV (xs.getD i dRow)) rfl Try.underlying44 rfl rfl (hX.cons.cons.cons.cons.rd (get_map dRow hi))) ?_
                  refine ord_val_yes rfl rfl rfl rfl rfl rfl (fun _ h => h) (val_move rfl rfl) ?_
                  refine ord_val_yes rfl rfl rfl rfl rfl rfl (fun _ h => h) (val_indexAddr rfl Try.underlying44 2 (by kernel_rfl) rfl rfl k rfl hkn (Ent.pure hA3)) ?_
                  refine ord_val_yes rfl rfl rfl rfl rfl rfl (fun _ h => h) (val_fieldAddr rfl Try.underlying47 0 1 (by kernel_rfl) (by decide) rfl (Ent.pure (by first | rfl | assumption))) ?_
                  refine ord_val_yes rfl rfl rfl rfl rfl rfl (fun _ h => h) (val_load (v := .string (mark5 i)) rfl Try.underlying9 rfl rfl (hshort.rd ((reps_get (mk := mkP i) (j := 0) hkn (Nat.zero_lt_succ 1)).trans rfl))) ?_
                  refine ord_val_yes rfl rfl rfl rfl rfl rfl (fun _ h => h) (val_move rfl rfl) ?_
                  refine ord_eff_yes (eff_call1 rfl ⟨_, Try.func46, by kernel_rfl, rfl⟩ rfl (fun E w s => law05_mark_c s)) rfl rfl rfl rfl rfl rfl (.inr fun _ _ => (fun _ h => h)) (fun _ _ => ?_)
                  refine ord_val_yes rfl rfl rfl rfl rfl rfl (fun _ h => h) (val_str_neq rfl rfl rfl) ?_
                  first | refine Pk.slot 206 (v := .bool false) rfl (congrArg Value.bool (decide_eq_false (fun h => h rfl))) ?_ | skip
                  refine ord_val_yes rfl rfl rfl rfl rfl rfl (fun _ h => h) (val_pick rfl rfl rfl rfl) ?_
                  refine ord_val rfl rfl rfl rfl (fun _ h => h) (val_pick rfl rfl rfl rfl) ?_
                  refine ord_nil ?_
                  refine thru_on ?_
                  refine pk_cond_f rfl ?_
                  refine pk_skip ?_
                  refine in_on ?_
                  refine thru_on ?_
                  refine pk_region ?_
                  refine pk_val rfl rfl rfl (val_move rfl rfl) ?_
                  refine pk_val rfl rfl rfl (val_add rfl rfl rfl (by omega)) ?_
                  refine pk_val rfl rfl rfl (val_assign rfl rfl) ?_
                  refine pk_nil ?_
                  refine thru_on ?_
                  refine pk_next (x := k) (k + 1) ?_ ?_ ?_ ?_
                  · (try dsimp only) <;> exact (by omega)
                  · (try dsimp only); exact (by omega)
                  · exact ⟨(Sub.cons rfl (by first | rfl | (congr 1; omega) | simp) (Sub.cons rfl (by first | rfl | (congr 1; omega) | simp) (Sub.cons rfl (by first | rfl | (congr 1; omega) | simp) (Sub.cons rfl (by first | rfl | (congr 1; omega) | simp) (Sub.cons rfl (by first | rfl | (congr 1; omega) | simp) (Sub.cons rfl (by first | rfl | (congr 1; omega) | simp) (Sub.nil _))))))), rfl⟩
                  · exact (fun _ h => h)
                · skip
                  refine Pk.slot 195 (v := .bool false) rfl (congrArg Value.bool (decide_eq_false (by omega))) ?_
                  refine ord_val_no rfl rfl rfl rfl rfl rfl rfl (fun _ h => h) ?_
                  refine ord_val_no rfl rfl rfl rfl rfl rfl rfl (fun _ h => h) ?_
                  refine ord_val_no rfl rfl rfl rfl rfl rfl rfl (fun _ h => h) ?_
                  refine ord_val_no rfl rfl rfl rfl rfl rfl rfl (fun _ h => h) ?_
                  refine ord_val_no rfl rfl rfl rfl rfl rfl rfl (fun _ h => h) ?_
                  refine ord_val_no rfl rfl rfl rfl rfl rfl rfl (fun _ h => h) ?_
                  refine ord_val_no rfl rfl rfl rfl rfl rfl rfl (fun _ h => h) ?_
                  refine ord_val_no rfl rfl rfl rfl rfl rfl rfl (fun _ h => h) ?_
                  refine ord_val_no rfl rfl rfl rfl rfl rfl rfl (fun _ h => h) ?_
                  refine ord_eff_no rfl rfl rfl rfl rfl rfl rfl (fun _ h => h) ?_
                  refine ord_val_no rfl rfl rfl rfl rfl rfl rfl (fun _ h => h) ?_
                  first | refine Pk.slot 206 (v := .bool false) rfl (congrArg Value.bool (decide_eq_false (fun h => h rfl))) ?_ | skip
                  refine ord_val_yes rfl rfl rfl rfl rfl rfl (fun _ h => h) (val_pick rfl rfl rfl rfl) ?_
                  refine ord_val rfl rfl rfl rfl (fun _ h => h) (val_pick rfl rfl rfl rfl) ?_
                  refine ord_nil ?_
                  refine thru_on ?_
                  refine pk_cond_f rfl ?_
                  refine pk_skip ?_
                  refine in_on ?_
                  refine thru_on ?_
                  refine pk_region ?_
                  refine pk_val rfl rfl rfl (val_move rfl rfl) ?_
                  refine pk_val rfl rfl rfl (val_add rfl rfl rfl (by omega)) ?_
                  refine pk_val rfl rfl rfl (val_assign rfl rfl) ?_
                  refine pk_nil ?_
                  refine thru_on ?_
                  refine pk_next (x := k) (k + 1) ?_ ?_ ?_ ?_
                  · (try dsimp only) <;> exact (by omega)
                  · (try dsimp only); exact (by omega)
                  · exact ⟨(Sub.cons rfl (by first | rfl | (congr 1; omega) | simp) (Sub.cons rfl (by first | rfl | (congr 1; omega) | simp) (Sub.cons rfl (by first | rfl | (congr 1; omega) | simp) (Sub.cons rfl (by first | rfl | (congr 1; omega) | simp) (Sub.cons rfl (by first | rfl | (congr 1; omega) | simp) (Sub.cons rfl (by first | rfl | (congr 1; omega) | simp) (Sub.nil _))))))), rfl⟩
                  · exact (fun _ h => h)
              · skip
                refine pk_exit ?_
                refine thru ?_
                refine thru ?_
                refine pk_here ?_
                refine in_on ?_
                refine thru_on ?_
                refine pk_region ?_
                refine pk_val rfl rfl rfl (val_move rfl rfl) ?_
                refine pk_val rfl rfl rfl (val_add rfl rfl rfl (by omega)) ?_
                refine pk_val rfl rfl rfl (val_assign rfl rfl) ?_
                refine pk_nil ?_
                refine thru_on ?_
                refine pk_next (x := i) (i + 1) ?_ ?_ ?_ ?_
                · (try dsimp only) <;> exact hi
                · (try dsimp only); exact (by omega)
                · exact ⟨(Sub.cons rfl (by first | rfl | (congr 1; omega) | simp) (Sub.cons rfl (by first | rfl | (congr 1; omega) | simp) (Sub.cons rfl (by first | rfl | (congr 1; omega) | simp) (Sub.cons rfl (by first | rfl | (congr 1; omega) | simp) (Sub.cons rfl (by first | rfl | (congr 1; omega) | simp) (Sub.nil _)))))), rfl⟩
                · exact (fun _ h => h)
            · skip
              refine pk_exit ?_
              refine thru ?_
              refine thru ?_
              refine pk_here ?_
              refine thru_on ?_
              refine pk_seq ?_
              refine pk_region ?_
              refine pk_val rfl rfl rfl (val_assign rfl rfl) ?_
              refine pk_nil ?_
              refine thru_on ?_
              refine pk_ret ?_
              refine ret1 rfl rfl fun w s => ⟨rfl, s.to (fun _ h => Sats.keep [false, false, false, false] h)⟩
def tA : ByteArray := ⟨#[97]⟩
def tB : ByteArray := ⟨#[98]⟩
def tE : ByteArray := ⟨#[]⟩
theorem known_group : grpF (ofI 4) [tB, tA, tE, tB] = [(0, [tA]), (1, [tB, tE, tB])] := by decide +kernel
theorem known_of : ofN tB 64 = 37 := by decide +kernel
theorem grCh_rd {α : Type} {T : TypeId} {sz : Nat} {enc : α → List Value} {gs : List (GR α)} {L : List Ch} (i : Nat) (h : L[i]? = some (Eng.cat (gs.map (grCh T sz enc)))) {j : Nat} (hj : j < gs.length) : Ent L (RdL (gs.getD j dGR).A ((gs.getD j dGR).l.flatMap enc)) :=
  Ent.cat (f := grCh T sz enc) i h (j := j) (x := gs.getD j dGR) (by simp [hj]) (fun h o => own_rd o) (fun h h' le r => r.mono le)
theorem ga_getD {α : Type} {gs : List (GR α)} {l : List (Int × List α)} (h : gs.map GR.a = l) {j : Nat} {p : Int} {x : List α} (e : l[j]? = some (p, x)) : j < gs.length ∧ (gs.getD j dGR).p = p ∧ (gs.getD j dGR).l = x := by
  subst h
  rw [List.getElem?_map] at e
  obtain ⟨g, h1, h2⟩ := Option.map_eq_some_iff.1 e
  have hj := (List.getElem?_eq_some_iff.1 h1).1
  have hg : gs.getD j dGR = g := by simp [List.getD_eq_getElem?_getD, h1]
  rw [hg]
  simp only [GR.a, Prod.mk.injEq] at h2
  exact ⟨hj, h2.1, h2.2⟩
theorem law05_known_c {E w : World} {L : List Ch} (s : Sat E w L) : Calls Try.prog 16 #[] w (Gives E (.bool true) L) := by
  refine enter (vs := []) Try.func16 rfl Try.ntmps16 rfl s ?_
  refine pk_seq ?_
  refine pk_region ?_
  refine pk_val rfl rfl rfl (val_assign rfl rfl) ?_
  refine pk_nil ?_
  refine thru_on ?_
  refine pk_seq ?_
  refine pk_region ?_
  refine pk_eff (eff_buildSlice (len := 4) (sz := 1) (z := #[.string ⟨#[]⟩]) rfl Try.underlying34 (by kernel_rfl) rfl rfl rfl (by decide) (by decide) rfl rfl) rfl rfl rfl (fun b6 _ => ?_)
  refine pk_eff (eff_callx rfl ⟨_, Try.func14, by kernel_rfl, rfl⟩ rfl (fun E w s => shard_Group_c (xs := [tB, tA, tE, tB]) (parts := 4) s (Ent.own 0 rfl) (by decide) (by decide) (by decide))) rfl rfl rfl (fun q7 hq7 => ?_)
  refine pk_val rfl rfl rfl (val_move rfl rfl) ?_
  refine pk_val rfl rfl rfl (val_extract rfl rfl rfl) ?_
  refine pk_val rfl rfl rfl (val_extract rfl rfl rfl) ?_
  refine pk_val rfl rfl rfl (val_assign rfl rfl) ?_
  refine pk_val rfl rfl rfl (val_assign rfl rfl) ?_
  refine pk_nil ?_
  refine thru_on ?_
  refine pk_seq ?_
  refine pk_region ?_
  refine pk_eff (eff_call1 rfl ⟨_, Try.func45, by kernel_rfl, rfl⟩ rfl (fun E w s => shard_Of_c (x := tB) (p := 64) s (by decide) (by decide))) rfl rfl rfl (fun _ _ => ?_)
  refine pk_val rfl rfl rfl (val_move rfl rfl) ?_
  refine pk_val rfl rfl rfl (val_extract rfl rfl rfl) ?_
  refine pk_val rfl rfl rfl (val_extract rfl rfl rfl) ?_
  refine pk_val rfl rfl rfl (val_assign rfl rfl) ?_
  refine pk_val rfl rfl rfl (val_assign rfl rfl) ?_
  refine pk_nil ?_
  refine thru_on ?_
  refine pk_seq ?_
  refine pk_region ?_
  have hga := hq7.1.trans known_group
  have hg0 := ga_getD hga (j := 0) (p := 0) (x := [tA]) rfl
  have hg1 := ga_getD hga (j := 1) (p := 1) (x := [tB, tE, tB]) rfl
  have hgn : q7.2.2.length = 2 := by have := congrArg List.length hga; simpa using this
  refine Pk.tells ((Ent.own 0 rfl).some_of (by rw [gr_len]; omega)) fun hA => ?_
  refine Pk.slot 1 (v := .slice q7.1 2 q7.2.1) rfl (by rw [hgn] <;> rfl) ?_
  refine Pk.slot 3 (v := .int .i64 37) rfl (by rw [known_of] <;> rfl) ?_
  refine pk_val rfl rfl rfl (val_move rfl rfl) ?_
  refine pk_val rfl rfl rfl (val_eql rfl rfl rfl) ?_
  refine pk_val rfl rfl rfl (val_move rfl rfl) ?_
  refine pk_guard_yes rfl rfl rfl ?_
  refine pk_val rfl rfl rfl (val_move rfl rfl) ?_
  refine pk_guard_yes rfl rfl rfl ?_
  refine pk_val rfl rfl rfl (val_eql rfl rfl rfl) ?_
  refine pk_val rfl rfl rfl (val_pick rfl rfl rfl rfl) ?_
  refine pk_val rfl rfl rfl (val_move rfl rfl) ?_
  refine pk_guard_yes rfl rfl rfl ?_
  refine pk_val rfl rfl rfl (val_move rfl rfl) ?_
  refine pk_guard_yes rfl rfl rfl ?_
  refine pk_val rfl rfl rfl (val_eql rfl rfl rfl) ?_
  refine pk_val rfl rfl rfl (val_pick rfl rfl rfl rfl) ?_
  refine pk_val rfl rfl rfl (val_move rfl rfl) ?_
  refine pk_guard_yes rfl rfl rfl ?_
  refine pk_val rfl rfl rfl (val_move rfl rfl) ?_
  refine pk_guard_yes rfl rfl rfl ?_
  refine pk_val rfl rfl rfl (val_len_slice rfl Try.underlying48 rfl) ?_
  refine pk_guard_yes rfl rfl rfl ?_
  refine pk_val rfl rfl rfl (val_eql rfl rfl rfl) ?_
  refine pk_val rfl rfl rfl (val_pick rfl rfl rfl rfl) ?_
  refine pk_val rfl rfl rfl (val_move rfl rfl) ?_
  refine pk_guard_yes rfl rfl rfl ?_
  refine pk_val rfl rfl rfl (val_move rfl rfl) ?_
  refine pk_guard_yes rfl rfl rfl ?_
  refine pk_val rfl rfl rfl (val_indexAddr rfl Try.underlying48 2 (by kernel_rfl) rfl rfl 0 rfl (by omega) (Ent.pure hA)) ?_
  refine pk_guard_yes rfl rfl rfl ?_
  refine pk_val rfl rfl rfl (val_fieldAddr rfl Try.underlying57 0 1 (by kernel_rfl) (by decide) rfl (Ent.pure (by first | rfl | assumption))) ?_
  refine pk_guard_yes rfl rfl rfl ?_
  refine pk_val rfl rfl rfl (val_load (v := .int .i64 (q7.2.2.getD 0 dGR).p) rfl Try.underlying3 rfl rfl ((Ent.own 0 rfl).rd ((get_flat (k := 0) GR.cells_len dGR hg0.1 (by decide)).trans rfl))) ?_
  refine Pk.slot 33 (v := .int .i64 0) rfl (by rw [hg0.2.1]) ?_
  refine pk_guard_yes rfl rfl rfl ?_
  refine pk_val rfl rfl rfl (val_eql rfl rfl rfl) ?_
  refine pk_val rfl rfl rfl (val_pick rfl rfl rfl rfl) ?_
  refine pk_val rfl rfl rfl (val_move rfl rfl) ?_
  refine pk_guard_yes rfl rfl rfl ?_
  refine pk_val rfl rfl rfl (val_move rfl rfl) ?_
  refine pk_guard_yes rfl rfl rfl ?_
  refine pk_val rfl rfl rfl (val_indexAddr rfl Try.underlying48 2 (by kernel_rfl) rfl rfl 0 rfl (by omega) (Ent.pure hA)) ?_
  refine pk_guard_yes rfl rfl rfl ?_
  refine pk_val rfl rfl rfl (val_fieldAddr rfl Try.underlying57 1 1 (by kernel_rfl) (by decide) rfl (Ent.pure (by first | rfl | assumption))) ?_
  refine pk_guard_yes rfl rfl rfl ?_
  refine pk_val rfl rfl rfl (val_load (v := .slice (q7.2.2.getD 0 dGR).A (q7.2.2.getD 0 dGR).l.length (q7.2.2.getD 0 dGR).c) rfl Try.underlying34 rfl rfl ((Ent.own 0 rfl).rd ((get_flat (k := 0) GR.cells_len dGR hg0.1 (by decide)).trans rfl))) ?_
  refine pk_guard_yes rfl rfl rfl ?_
  refine pk_eff (eff_buildSlice (len := 1) (sz := 1) (z := #[.string ⟨#[]⟩]) rfl Try.underlying34 (by kernel_rfl) rfl rfl rfl (by decide) (by decide) rfl rfl) rfl rfl rfl (fun b41 _ => ?_)
  refine pk_guard_yes rfl rfl rfl ?_
  refine pk_eff (eff_call1 rfl ⟨_, Try.func17, by kernel_rfl, rfl⟩ rfl (fun E w s => law05_same_c s (by rw [← sC1_map]; exact grCh_rd 2 rfl hg0.1) (Ent.own 0 rfl) (l2 := [tA]) rfl rfl (by rw [hg0.2.2]; decide))) rfl rfl rfl (fun _ _ => ?_)
  refine Pk.slot 42 (v := .bool true) rfl (congrArg Value.bool (decide_eq_true hg0.2.2)) ?_
  refine pk_val rfl rfl rfl (val_pick rfl rfl rfl rfl) ?_
  refine pk_val rfl rfl rfl (val_move rfl rfl) ?_
  refine pk_guard_yes rfl rfl rfl ?_
  refine pk_val rfl rfl rfl (val_move rfl rfl) ?_
  refine pk_guard_yes rfl rfl rfl ?_
  refine pk_val rfl rfl rfl (val_indexAddr rfl Try.underlying48 2 (by kernel_rfl) rfl rfl 1 rfl (by omega) (Ent.pure hA)) ?_
  refine pk_guard_yes rfl rfl rfl ?_
  refine pk_val rfl rfl rfl (val_fieldAddr rfl Try.underlying57 0 1 (by kernel_rfl) (by decide) rfl (Ent.pure (by first | rfl | assumption))) ?_
  refine pk_guard_yes rfl rfl rfl ?_
  refine pk_val rfl rfl rfl (val_load (v := .int .i64 (q7.2.2.getD 1 dGR).p) rfl Try.underlying3 rfl rfl ((Ent.own 1 rfl).rd ((get_flat (k := 1) GR.cells_len dGR hg1.1 (by decide)).trans rfl))) ?_
  refine Pk.slot 48 (v := .int .i64 1) rfl (by rw [hg1.2.1]) ?_
  refine pk_guard_yes rfl rfl rfl ?_
  refine pk_val rfl rfl rfl (val_eql rfl rfl rfl) ?_
  refine pk_val rfl rfl rfl (val_pick rfl rfl rfl rfl) ?_
  refine pk_val rfl rfl rfl (val_move rfl rfl) ?_
  refine pk_guard_yes rfl rfl rfl ?_
  refine pk_val rfl rfl rfl (val_move rfl rfl) ?_
  refine pk_guard_yes rfl rfl rfl ?_
  refine pk_val rfl rfl rfl (val_indexAddr rfl Try.underlying48 2 (by kernel_rfl) rfl rfl 1 rfl (by omega) (Ent.pure hA)) ?_
  refine pk_guard_yes rfl rfl rfl ?_
  refine pk_val rfl rfl rfl (val_fieldAddr rfl Try.underlying57 1 1 (by kernel_rfl) (by decide) rfl (Ent.pure (by first | rfl | assumption))) ?_
  refine pk_guard_yes rfl rfl rfl ?_
  refine pk_val rfl rfl rfl (val_load (v := .slice (q7.2.2.getD 1 dGR).A (q7.2.2.getD 1 dGR).l.length (q7.2.2.getD 1 dGR).c) rfl Try.underlying34 rfl rfl ((Ent.own 1 rfl).rd ((get_flat (k := 1) GR.cells_len dGR hg1.1 (by decide)).trans rfl))) ?_
  refine pk_guard_yes rfl rfl rfl ?_
  refine pk_eff (eff_buildSlice (len := 3) (sz := 1) (z := #[.string ⟨#[]⟩]) rfl Try.underlying34 (by kernel_rfl) rfl rfl rfl (by decide) (by decide) rfl rfl) rfl rfl rfl (fun b56 _ => ?_)
  refine pk_guard_yes rfl rfl rfl ?_
  refine pk_eff (eff_call1 rfl ⟨_, Try.func17, by kernel_rfl, rfl⟩ rfl (fun E w s => law05_same_c s (by rw [← sC1_map]; exact grCh_rd 3 rfl hg1.1) (Ent.own 0 rfl) (l2 := [tB, tE, tB]) rfl rfl (by rw [hg1.2.2]; decide))) rfl rfl rfl (fun _ _ => ?_)
  refine Pk.slot 57 (v := .bool true) rfl (congrArg Value.bool (decide_eq_true hg1.2.2)) ?_
  refine pk_val rfl rfl rfl (val_pick rfl rfl rfl rfl) ?_
  refine pk_val rfl rfl rfl (val_assign rfl rfl) ?_
  refine pk_nil ?_
  refine thru_on ?_
  refine pk_ret ?_
  refine ret1 rfl rfl fun w s => ⟨rfl, s.to (fun _ h => Sats.keep [false, false, false, false, false] h)⟩
end Go.Proofs.Ytdpckendkklfdaa
