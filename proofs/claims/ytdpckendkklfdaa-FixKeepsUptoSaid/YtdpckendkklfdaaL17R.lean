/- FixKeeps, the walk itself. -/
import Derived.Test.YtdpckendkklfdaaL17Q
set_option linter.unusedVariables false
set_option linter.unusedSimpArgs false
set_option maxRecDepth 100000
namespace Go.Proofs.Ytdpckendkklfdaa
open Go.RowKit Go.Proofs.Eng
theorem cells_one (vs : List Ver) : (vs.flatMap Ver.cells).all (·.oneCell') = true := by
  rw [List.all_flatMap]
  refine List.all_eq_true.2 fun v _ => ?_
  simp [Ver.cells, Value.oneCell']
theorem rowV_one (rs : List Row) : (rs.map rowV).all (·.oneCell') = true := by
  rw [List.all_map]
  exact List.all_eq_true.2 fun v _ => rfl
theorem avs_set {vs : List Ver} {i : Nat} {v : Ver} {q : Option Addr} {n : Nat} (h : i < vs.length) (hv : v = vs.getD i dV) : avs (vs.set i ⟨v.a, q, n⟩) = avs vs := by
  simp only [avs, List.map_set]
  apply List.ext_getElem?
  intro k
  rw [List.getElem?_set]
  split
  · rename_i e
    subst e
    subst hv
    simp [h]
  · rfl
theorem ls_len (xs ys : List Ver) (k : Nat) (h : xs.length = ys.length) (hk : k ≤ xs.length) : (((interl (xs.take k) (ys.take k)).map rowOf).map rowV).length = 2 * k := by
  rw [List.length_map, List.length_map, interl_len _ _ (by simp; omega), List.length_take, Nat.min_eq_left hk]
theorem rows_small {xs ys : List Ver} {r : Row} (h : r ∈ (interl xs ys).map rowOf) (hx : ∀ v ∈ xs, v.a.keys.length ≤ 1099511627776) (hy : ∀ v ∈ ys, v.a.keys.length ≤ 1099511627776) : r.n ≤ 1099511627776 := by
  obtain ⟨v, hv, rfl⟩ := List.mem_map.1 h
  rcases interl_mem hv with h | h
  · exact hx v h
  · exact hy v h
theorem get_spare (vs : List Ver) (x : Value) (ex : List Value) : ([] ++ vs.flatMap Ver.cells ++ (x :: ex))[vs.length * 4 + 0]? = some x := by
  rw [List.nil_append, List.getElem?_append_right (by rw [flat_length Ver.cells_len]; omega), flat_length Ver.cells_len]
  simp
theorem pre_get (vs : List Ver) (ex : List Value) {k j : Nat} (h : k < vs.length) (hj : j < 4) : ([] ++ vs.flatMap Ver.cells ++ ex)[k * 4 + j]? = (vs.getD k dV).cells[j]? := by
  rw [List.nil_append, List.getElem?_append_left (by rw [flat_length Ver.cells_len]; omega)]
  exact get_flat Ver.cells_len dV h hj
theorem law17_FixKeeps_c {E w : World} {L : List Ch} {M K : Option Addr} {c c2 d : Nat} {masks picks : List Int} {read : Int} (s : Sat E w L) (hM : Ent L (RdL M (masks.map (.int .i64)))) (hK : Ent L (RdL K (picks.map (.int .i64)))) (hmc : masks.length ≤ c) (hml : masks.length ≤ 1099511627776) (hpl : picks.length ≤ 1099511627776) :
    Calls Try.prog 3 #[.slice M masks.length c, .int .i64 read, .slice K picks.length d] w (Gives E (.bool true) L) := by
  obtain ⟨ms, hms⟩ : ∃ ms, ms = masks.take 20 := ⟨_, rfl⟩
  have hmsl : ms.length = min 20 masks.length := by rw [hms, List.length_take]
  have hmz : (if (20 : Int) < (masks.length : Int) then (20 : Int) else (masks.length : Int)) = (ms.length : Int) := by split <;> omega
  have hMs : Ent L (RdL M (ms.map (.int .i64))) := fun h s => RdL.left (ys := (masks.drop 20).map (.int .i64)) (by rw [hms, ← List.map_append, List.take_append_drop]; exact hM h s)
  obtain ⟨l, hl⟩ : ∃ l, l = broughtL ms read 0 picks := ⟨_, rfl⟩
  obtain ⟨nd, hnd⟩ : ∃ nd, nd = needsL l := ⟨_, rfl⟩
  obtain ⟨got, hgot⟩ : ∃ got, got = gotL ms l := ⟨_, rfl⟩
  have hln : l.length ≤ 8 := by rw [hl, broughtL_len]; exact keysB_len read
  have hl8 : ∀ v ∈ l, v.keys.length ≤ 8 := fun v hv => by rw [hl] at hv; exact (broughtL_made hv).klen
  have hlk : ∀ v ∈ l, v.keys.length ≤ 1099511627776 := fun v hv => by have := hl8 v hv; omega
  have hgk : ∀ v ∈ got, v.keys.length ≤ 1099511627776 := fun v hv => by rw [hgot] at hv; have := gotL_klen hv; omega
  obtain ⟨mx, hmx⟩ : ∃ mx, mx = mendL l got := ⟨_, rfl⟩
  have hme : mendE l got = 0 := by rw [hgot, hl]; exact mend_err _ _ _ _
  have hmk : ∀ v ∈ mx, v.keys.length ≤ 1099511627776 := fun v hv => by rw [hmx, hgot, hl] at hv; have := mend_klen hv; omega
  have hmn : mx.length ≤ 8 := by rw [hmx, hgot, hl, mend_len]; exact keysB_len read
  have hndl : nd.length ≤ 8 := by have := needsL_len l; rw [← hnd] at this; omega
  refine enter (vs := [_, _, _]) Try.func3 rfl Try.ntmps3 rfl s ?_
  refine pk_seq ?_
  refine pk_region ?_
  refine pk_val rfl rfl rfl (val_assign rfl rfl) ?_
  refine pk_nil ?_
  refine thru_on ?_
  refine pk_seq ?_
  refine pk_region ?_
  refine pk_val rfl rfl rfl (val_move rfl rfl) ?_
  refine pk_val rfl rfl rfl (val_move rfl rfl) ?_
  refine pk_val rfl rfl rfl (val_len_slice rfl Try.underlying22 rfl) ?_
  refine pk_val rfl rfl rfl (val_min2 rfl rfl rfl) ?_
  refine pk_val rfl rfl rfl (val_slice_h rfl Try.underlying22 (by kernel_rfl) rfl rfl ms.length hmz (by omega)) ?_
  refine pk_val rfl rfl rfl (val_assign rfl rfl) ?_
  refine pk_nil ?_
  refine thru_on ?_
  refine pk_seq ?_
  refine pk_region ?_
  refine pk_val rfl rfl rfl (val_move rfl rfl) ?_
  refine pk_val rfl rfl rfl (val_move rfl rfl) ?_
  refine pk_val rfl rfl rfl (val_move rfl rfl) ?_
  refine pk_eff (eff_callx rfl ⟨_, Try.func6, by kernel_rfl, rfl⟩ rfl (fun E w s => law17_brought_c s hMs hK (by omega) hpl)) rfl rfl rfl (fun q40 hq40 => ?_)
  rw [← hl] at hq40
  have hq40l : q40.2.2.length = l.length := by rw [← hq40, avs_len]
  refine pk_val rfl rfl rfl (val_assign rfl rfl) ?_
  refine pk_nil ?_
  refine thru_on ?_
  refine pk_seq ?_
  refine pk_region ?_
  refine pk_val rfl rfl rfl (val_move rfl rfl) ?_
  refine pk_val rfl rfl rfl (val_move rfl rfl) ?_
  refine pk_val rfl rfl rfl (val_move rfl rfl) ?_
  refine pk_eff (eff_callx rfl ⟨_, Try.func6, by kernel_rfl, rfl⟩ rfl (fun E w s => law17_brought_c s hMs.cons.cons hK.cons.cons (by omega) hpl)) rfl rfl rfl (fun q44 hq44 => ?_)
  rw [← hl] at hq44
  have hq44l : q44.2.2.length = l.length := by rw [← hq44, avs_len]
  refine pk_val rfl rfl rfl (val_assign rfl rfl) ?_
  refine pk_nil ?_
  refine thru_on ?_
  refine pk_seq ?_
  refine pk_region ?_
  refine pk_val rfl rfl rfl (val_move rfl rfl) ?_
  refine pk_eff (eff_callx rfl ⟨_, Try.func7, by kernel_rfl, rfl⟩ rfl (fun E w s => fix_Needs_c (vs := q40.2.2) s (verIn_own 2 3 rfl rfl (by omega) (by rw [hq40]; exact hlk)))) rfl rfl rfl (fun q47 _ => ?_)
  rw [hq40, ← hnd]
  refine pk_val rfl rfl rfl (val_move rfl rfl) ?_
  refine pk_val rfl rfl rfl (val_extract rfl rfl rfl) ?_
  refine pk_val rfl rfl rfl (val_extract rfl rfl rfl) ?_
  refine pk_val rfl rfl rfl (val_assign rfl rfl) ?_
  refine pk_val rfl rfl rfl (val_assign rfl rfl) ?_
  refine pk_nil ?_
  refine thru_on ?_
  refine pk_seq ?_
  refine pk_seq ?_
  refine pk_region ?_
  refine pk_eff (eff_call1 rfl ⟨_, Try.func8, by kernel_rfl, rfl⟩ rfl (fun E w s => law17_known_c s)) rfl rfl rfl (fun _ _ => ?_)
  refine Pk.slot 10 (v := .int .i64 0) rfl (by rw [hl, errN_brought] <;> rfl) ?_
  refine pk_val rfl rfl rfl (val_not rfl rfl) ?_
  refine pk_val rfl rfl rfl (val_move rfl rfl) ?_
  refine pk_guard_yes rfl rfl rfl ?_
  refine pk_val rfl rfl rfl (val_move rfl rfl) ?_
  refine pk_guard_yes rfl rfl rfl ?_
  refine pk_val rfl rfl rfl (val_neq rfl rfl rfl) ?_
  refine pk_val rfl rfl rfl (val_pick rfl rfl rfl rfl) ?_
  refine pk_nil ?_
  refine thru_on ?_
  refine pk_cond_f rfl ?_
  refine pk_skip ?_
  refine thru_on ?_
  refine Pk.nilrow 36 4 ?_
  refine Pk.heap (fun _ h => Sats.cat_nil (f := keysCh) h) ?_
  refine pk_seq ?_
  refine pk_region ?_
  refine pk_val rfl rfl rfl (val_assign rfl rfl) ?_
  refine pk_nil ?_
  refine thru_on ?_
  refine pk_seq ?_
  refine pk_seq ?_
  refine pk_region ?_
  refine pk_val rfl rfl rfl (val_assign rfl rfl) ?_
  refine pk_nil ?_
  refine thru_on ?_
  refine pk_block ?_
  refine pk_loop (α := Nat × Option Addr × Nat × List Ver) ((0, none, 0, [])) (fun y => [(0, .slice M ms.length c), (7, .slice q40.1 q40.2.2.length q40.2.1), (8, .slice q44.1 q44.2.2.length q44.2.1), (9, .slice q47.1 nd.length q47.2), (11, .slice y.2.1 y.2.2.2.length y.2.2.1), (12, .int .i64 (y.1 : Nat))]) (fun y => (own y.2.1 (y.2.2.2).length y.2.2.1 36 4 ((y.2.2.2).flatMap Ver.cells)) :: (cat (y.2.2.2.map keysCh)) :: (own q47.1 nd.length q47.2 33 2 (nd.flatMap wantC)) :: (own q44.1 q44.2.2.length q44.2.1 36 4 (q44.2.2.flatMap Ver.cells)) :: (cat (q44.2.2.map keysCh)) :: (own q40.1 q40.2.2.length q40.2.1 36 4 (q40.2.2.flatMap Ver.cells)) :: (cat (q40.2.2.map keysCh)) :: L) (fun y => y.1 ≤ nd.length ∧ avs y.2.2.2 = (nd.take y.1).map (gotF ms)) (fun y => nd.length - y.1) ?_ ?_ ?_ ?_
  · (try dsimp only); exact ⟨Nat.zero_le _, rfl⟩
  · exact ⟨(Sub.cons rfl (by first | rfl | (congr 1; omega) | simp) (Sub.cons rfl (by first | rfl | (congr 1; omega) | simp) (Sub.cons rfl (by first | rfl | (congr 1; omega) | simp) (Sub.cons rfl (by first | rfl | (congr 1; omega) | simp) (Sub.cons rfl (by first | rfl | (congr 1; omega) | simp) (Sub.cons rfl (by first | rfl | (congr 1; omega) | simp) (Sub.nil _))))))), rfl⟩
  · exact (fun _ h => (Sats.pick 7 [1, 0, 2, 3, 4, 5, 6] rfl h :))
  rintro ⟨i, q, d', gs⟩ ⟨hi0, hI⟩
  dsimp only at hi0 hI ⊢
  have hgl : gs.length = i := by have := congrArg List.length hI; simp [avs] at this; omega
  refine pk_seq ?_
  refine pk_seq ?_
  refine pk_region ?_
  refine pk_val rfl rfl rfl (val_move rfl rfl) ?_
  refine pk_val rfl rfl rfl (val_move rfl rfl) ?_
  refine pk_val rfl rfl rfl (val_len_slice rfl Try.underlying25 rfl) ?_
  refine pk_val rfl rfl rfl (val_lss rfl rfl rfl) ?_
  refine pk_nil ?_
  refine thru_on ?_
  refine pk_if rfl (fun h1 => ?_) (fun h1 => ?_)
  · skip
    refine pk_skip ?_
    refine thru_on ?_
    have hi : i < nd.length := by omega
    obtain ⟨⟨v0, hv0, _, hpe⟩, w, hw, hid, hwo⟩ := needsL_mem (show nd.getD i dP ∈ needsL (broughtL ms read 0 picks) by rw [← hl, ← hnd]; exact getD_mem dP hi)
    have hks : (nd.getD i dP).1.size = 1 := by rw [hpe]; exact brought_key_size hv0
    refine Pk.tells ((Ent.own 2 rfl).some_of (by rw [flat_length wantC_len]; omega)) fun hA => ?_
    refine pk_seq ?_
    refine pk_block ?_
    refine pk_seq ?_
    refine pk_region ?_
    refine pk_val rfl rfl rfl (val_move rfl rfl) ?_
    refine pk_val rfl rfl rfl (val_move rfl rfl) ?_
    refine pk_val rfl rfl rfl (val_indexAddr rfl Try.underlying25 2 (by kernel_rfl) rfl rfl i rfl hi (Ent.pure hA)) ?_
    refine pk_val rfl rfl rfl (val_fieldAddr rfl Try.underlying33 1 1 (by kernel_rfl) (by decide) rfl (Ent.pure (by first | rfl | assumption))) ?_
    refine pk_val rfl rfl rfl (val_load rfl Try.underlying31 rfl rfl ((Ent.own 2 rfl).rd ((get_flat (k := i) wantC_len dP hi (by decide)).trans rfl))) ?_
    refine pk_val rfl rfl rfl (val_quow rfl rfl rfl (by decide)) ?_
    refine Pk.slot 67 (v := .int .u64 ((w : Int) + 1)) rfl (by rw [hid, Int.mul_tdiv_cancel_left _ (by decide), wrap_u64 (by omega)]) ?_
    refine pk_val rfl rfl rfl (val_conv_fit rfl Try.underlying31 Try.underlying3 rfl (by simp [IntKind.wrap, IntKind.bits, IntKind.signed]; omega)) ?_
    refine pk_val rfl rfl rfl (val_sub rfl rfl rfl (by omega)) ?_
    refine Pk.slot 69 (v := .int .i64 (w : Nat)) rfl (by congr 1; omega) ?_
    refine pk_val rfl rfl rfl (val_assign rfl rfl) ?_
    refine pk_nil ?_
    refine thru_on ?_
    refine pk_seq ?_
    refine pk_seq ?_
    refine pk_region ?_
    refine pk_val rfl rfl rfl (val_move rfl rfl) ?_
    refine pk_val rfl rfl rfl (val_lss rfl rfl rfl) ?_
    refine Pk.slot 71 (v := .bool false) rfl (congrArg Value.bool (decide_eq_false (by omega))) ?_
    refine pk_val rfl rfl rfl (val_move rfl rfl) ?_
    refine pk_guard_yes rfl rfl rfl ?_
    refine pk_val rfl rfl rfl (val_move rfl rfl) ?_
    refine pk_guard_yes rfl rfl rfl ?_
    refine pk_val rfl rfl rfl (val_move rfl rfl) ?_
    refine pk_guard_yes rfl rfl rfl ?_
    refine pk_val rfl rfl rfl (val_len_slice rfl Try.underlying22 rfl) ?_
    refine pk_guard_yes rfl rfl rfl ?_
    refine pk_val rfl rfl rfl (val_geq rfl rfl rfl) ?_
    refine Pk.slot 76 (v := .bool false) rfl (congrArg Value.bool (decide_eq_false (by omega))) ?_
    refine pk_val rfl rfl rfl (val_pick rfl rfl rfl rfl) ?_
    refine pk_nil ?_
    refine thru_on ?_
    refine pk_cond_f rfl ?_
    refine pk_skip ?_
    refine thru_on ?_
    refine pk_region ?_
    refine pk_val rfl rfl rfl (val_move rfl rfl) ?_
    refine pk_val rfl rfl rfl (val_move rfl rfl) ?_
    refine pk_val rfl rfl rfl (val_move rfl rfl) ?_
    refine pk_val rfl rfl rfl (val_move rfl rfl) ?_
    refine pk_val rfl rfl rfl (val_move rfl rfl) ?_
    refine pk_val rfl rfl rfl (val_indexAddr rfl Try.underlying25 2 (by kernel_rfl) rfl rfl i rfl hi (Ent.pure hA)) ?_
    refine pk_val rfl rfl rfl (val_fieldAddr rfl Try.underlying33 0 1 (by kernel_rfl) (by decide) rfl (Ent.pure (by first | rfl | assumption))) ?_
    refine pk_val rfl rfl rfl (val_load rfl Try.underlying9 rfl rfl ((Ent.own 2 rfl).rd ((get_flat (k := i) wantC_len dP hi (by decide)).trans rfl))) ?_
    refine pk_eff (eff_callx rfl ⟨_, Try.func9, by kernel_rfl, rfl⟩ rfl (fun E w s => law17_made_c s hMs.cons.cons.cons.cons.cons.cons.cons hw (by omega) (by omega))) rfl rfl rfl (fun q86 _ => ?_)
    refine pk_eff (eff_buildSlice (len := 1) (sz := 4) (z := #[.string ⟨#[]⟩, .int .u64 0, .string ⟨#[]⟩, .slice none 0 0]) rfl Try.underlying23 (by kernel_rfl) rfl rfl rfl (by decide) (by decide) rfl rfl) rfl rfl rfl (fun b87 _ => ?_)
    refine pk_eff (eff_append1 (sz := 4) (bytes := 64) (z := .agg #[.string ⟨#[]⟩, .int .u64 0, .string ⟨#[]⟩, .slice none 0 0]) 2 rfl Try.underlying23 (by kernel_rfl) rfl (by decide) (by decide) rfl rfl rfl (Ent.own 0 rfl) (by first | rfl | (simp; done) | exact flat_length (s := 4) (fun _ => rfl) _) (by first | rfl | (simp; done)) rfl (by omega)) rfl rfl rfl (fun q88 _ => ?_)
    refine pk_val rfl rfl rfl (val_assign rfl rfl) ?_
    refine pk_nil ?_
    refine in_on ?_
    refine thru_on ?_
    refine pk_region ?_
    refine pk_val rfl rfl rfl (val_move rfl rfl) ?_
    refine pk_val rfl rfl rfl (val_add rfl rfl rfl (by omega)) ?_
    refine pk_val rfl rfl rfl (val_assign rfl rfl) ?_
    refine pk_nil ?_
    refine thru_on ?_
    refine pk_next (x := ⟨i, q, d', gs⟩) ((i + 1, q88.1, q88.2, gs ++ [⟨madeAv ms w (nd.getD i dP).1, q86.1, q86.2⟩])) ?_ ?_ ?_ ?_
    · (try dsimp only) <;> exact ⟨hi, by (try dsimp only); rw [avs_snoc, hI, take_succ_map (gotF ms) dP hi, gotF, hwo]⟩
    · (try dsimp only); exact (by omega)
    · exact ⟨(Sub.cons rfl (by first | rfl | (congr 1; omega) | simp) (Sub.cons rfl (by first | rfl | (congr 1; omega) | simp) (Sub.cons rfl (by first | rfl | (congr 1; omega) | simp) (Sub.cons rfl (by first | rfl | (congr 1; omega) | simp) (Sub.cons rfl (by simp) (Sub.cons rfl (by first | rfl | (congr 1; omega) | simp) (Sub.nil _))))))), rfl⟩
    · exact (fun _ h => by
        (try dsimp only)
        rw [List.flatMap_append, List.length_append]
        exact Sats.swap (Sats.cat_snoc (f := keysCh) (y := ⟨madeAv ms w (nd.getD i dP).1, q86.1, q86.2⟩) (Sats.swap (Sats.pull 2 rfl h.tail))))
  · skip
    have hii : i = nd.length := by omega
    have hgs : avs gs = got := by rw [hI, hii, List.take_length, hgot, gotL, ← hnd]
    have hgl8 : gs.length ≤ 8 := by omega
    refine pk_exit ?_
    refine thru ?_
    refine thru ?_
    refine pk_here ?_
    refine thru_on ?_
    refine pk_seq ?_
    refine pk_seq ?_
    refine pk_region ?_
    refine pk_val rfl rfl rfl (val_assign rfl rfl) ?_
    refine pk_nil ?_
    refine thru_on ?_
    refine pk_block ?_
    refine pk_loop (α := Nat × List Ver) ((0, q40.2.2)) (fun y => [(7, .slice q40.1 q40.2.2.length q40.2.1), (8, .slice q44.1 q44.2.2.length q44.2.1), (9, .slice q47.1 nd.length q47.2), (11, .slice q gs.length d'), (14, .int .i64 (y.1 : Nat))]) (fun y => (own q40.1 q40.2.2.length q40.2.1 36 4 (y.2.flatMap Ver.cells)) :: (cat ((List.range q40.2.2.length).map (gS y.2 y.1))) :: (own q (gs).length d' 36 4 ((gs).flatMap Ver.cells)) :: (cat (gs.map keysCh)) :: (own q47.1 nd.length q47.2 33 2 (nd.flatMap wantC)) :: (own q44.1 q44.2.2.length q44.2.1 36 4 (q44.2.2.flatMap Ver.cells)) :: (cat (q44.2.2.map keysCh)) :: L) (fun y => y.2.length = q40.2.2.length ∧ avs y.2 = l ∧ y.1 ≤ q40.2.2.length) (fun y => q40.2.2.length - y.1) ?_ ?_ ?_ ?_
    · (try dsimp only); exact ⟨rfl, hq40, Nat.zero_le _⟩
    · exact ⟨(Sub.cons rfl (by first | rfl | (congr 1; omega) | simp) (Sub.cons rfl (by first | rfl | (congr 1; omega) | simp) (Sub.cons rfl (by first | rfl | (congr 1; omega) | simp) (Sub.cons rfl (by first | rfl | (congr 1; omega) | simp) (Sub.cons rfl (by first | rfl | (congr 1; omega) | simp) (Sub.nil _)))))), rfl⟩
    · exact (fun _ h => by
      have h1 := ((Sats.pick 7 [5, 6, 0, 1, 2, 3, 4] rfl h :))
      rw [gS_start q40.2.2] at h1
      exact h1)
    rintro ⟨i, vs⟩ ⟨hvl, hva, hi0⟩
    dsimp only at hvl hva hi0 ⊢
    refine pk_seq ?_
    refine pk_seq ?_
    refine pk_region ?_
    refine pk_val rfl rfl rfl (val_move rfl rfl) ?_
    refine pk_val rfl rfl rfl (val_move rfl rfl) ?_
    refine pk_val rfl rfl rfl (val_len_slice rfl Try.underlying23 rfl) ?_
    refine pk_val rfl rfl rfl (val_lss rfl rfl rfl) ?_
    refine pk_nil ?_
    refine thru_on ?_
    refine pk_if rfl (fun h2 => ?_) (fun h2 => ?_)
    · skip
      refine pk_skip ?_
      refine thru_on ?_
      have hi : i < q40.2.2.length := by omega
      have hiv : i < vs.length := by omega
      have hkl8 : (vs.getD i dV).a.keys.length ≤ 8 := hl8 _ (by rw [← hva]; exact List.mem_map.2 ⟨_, getD_mem dV hiv, rfl⟩)
      refine Pk.tells ((Ent.own 0 rfl).some_of (by rw [flat_length Ver.cells_len]; omega)) fun hA => ?_
      obtain ⟨v, hv⟩ : ∃ v, v = vs.getD i dV := ⟨_, rfl⟩
      rw [← hv] at hkl8
      refine Pk.nilrow 9 1 ?_
      refine pk_seq ?_
      refine pk_block ?_
      refine pk_drawk (.val 0 (.val 1 (.val 2 (.val 3 (.val 4 (.val 5 (.val 6 (.val 10 (.val 11 (.val 12 (.val 13 (.val 14 (.val 15 (.two 7 (.eff 8 (.eff 9 (.val 16 (.val 17 (.val 18 (.eff 19 .nil)))))) 8 (.eff 7 (.eff 9 (.val 16 (.val 17 (.val 18 (.eff 19 .nil)))))))))))))))))))) 19 [false, true, true, true, true, true, true, true] rfl (by kernel_rfl) (fun _ _ _ _ _ h => h) ?_
      refine ord_val rfl rfl rfl rfl (fun _ h => (Sats.keep [false, true, true, true, true, true, true, true] h :)) (val_move rfl rfl) ?_
      refine ord_val rfl rfl rfl rfl (fun _ h => (Sats.keep [false, true, true, true, true, true, true, true] h :)) (val_move rfl rfl) ?_
      refine ord_val rfl rfl rfl rfl (fun _ h => (Sats.keep [false, true, true, true, true, true, true, true] h :)) (val_move rfl rfl) ?_
      refine ord_val rfl rfl rfl rfl (fun _ h => (Sats.keep [false, true, true, true, true, true, true, true] h :)) (val_move rfl rfl) ?_
      refine ord_val rfl rfl rfl rfl (fun _ h => (Sats.keep [false, true, true, true, true, true, true, true] h :)) (val_indexAddr rfl Try.underlying23 4 (by kernel_rfl) rfl rfl i rfl hi (Ent.pure hA)) ?_
      refine ord_val rfl rfl rfl rfl (fun _ h => (Sats.keep [false, true, true, true, true, true, true, true] h :)) (val_fieldAddr rfl Try.underlying36 3 1 (by kernel_rfl) (by decide) rfl (Ent.pure (by first | rfl | assumption))) ?_
      refine ord_val rfl rfl rfl rfl (fun _ h => (Sats.keep [false, true, true, true, true, true, true, true] h :)) (val_load (v := .slice v.A v.a.keys.length v.c) rfl Try.underlying34 rfl rfl ((Ent.own 0 rfl).rd ((get_flat (k := i) Ver.cells_len dV hiv (by decide)).trans (by rw [← hv]; rfl)))) ?_
      refine ord_val rfl rfl rfl rfl (fun _ h => (Sats.keep [false, true, true, true, true, true, true, true] h :)) (val_move rfl rfl) ?_
      refine ord_val rfl rfl rfl rfl (fun _ h => (Sats.keep [false, true, true, true, true, true, true, true] h :)) (val_move rfl rfl) ?_
      refine ord_val rfl rfl rfl rfl (fun _ h => (Sats.keep [false, true, true, true, true, true, true, true] h :)) (val_indexAddr rfl Try.underlying23 4 (by kernel_rfl) rfl rfl i rfl hi (Ent.pure hA)) ?_
      refine ord_val rfl rfl rfl rfl (fun _ h => (Sats.keep [false, true, true, true, true, true, true, true] h :)) (val_fieldAddr rfl Try.underlying36 3 1 (by kernel_rfl) (by decide) rfl (Ent.pure (by first | rfl | assumption))) ?_
      refine ord_val rfl rfl rfl rfl (fun _ h => (Sats.keep [false, true, true, true, true, true, true, true] h :)) (val_load (v := .slice v.A v.a.keys.length v.c) rfl Try.underlying34 rfl rfl ((Ent.own 0 rfl).rd ((get_flat (k := i) Ver.cells_len dV hiv (by decide)).trans (by rw [← hv]; rfl)))) ?_
      refine ord_val rfl rfl rfl rfl (fun _ h => (Sats.keep [false, true, true, true, true, true, true, true] h :)) (val_len_slice rfl Try.underlying34 rfl) ?_
      refine ord_two ?_ ?_
      · skip
        refine ord_eff (eff_append1 (sz := 1) (bytes := 16) (z := .string ⟨#[]⟩) 0 rfl Try.underlying34 (by kernel_rfl) rfl (by decide) (by decide) rfl rfl rfl (Ent.num 2 rfl hi (fun h o => by rw [gS_new, ← hv] at o; exact own_rd o) (fun _ _ le r => RdL.mono r le)) rfl (by simp) (by simp [Value.oneCell']) (by omega)) rfl rfl rfl rfl (.inr fun _ _ => (fun _ h => (Sats.keep [false, true, true, true, true, true, true, true] h :))) (fun q102 _ => ?_)
        refine ord_eff (eff_buildSlice (len := 1) (sz := 1) (z := #[.string ⟨#[]⟩]) rfl Try.underlying34 (by kernel_rfl) rfl rfl rfl (by decide) (by decide) rfl rfl) rfl rfl rfl rfl (.inr fun _ _ => (fun _ h => (Sats.keep [false, false, true, true, true, true, true, true, true] h :))) (fun b103 _ => ?_)
        refine ord_eff (eff_append1 (sz := 1) (bytes := 16) (z := .string ⟨#[]⟩) 1 rfl Try.underlying34 (by kernel_rfl) rfl (by decide) (by decide) rfl rfl rfl (Ent.own 0 rfl) (by simp) rfl rfl (by omega)) rfl rfl rfl rfl (.inr fun _ _ => (fun _ h => (Sats.keep [false, false, true, true, true, true, true, true, true] h :))) (fun q104 _ => ?_)
        refine Pk.tells (Ent.cap 1 rfl) fun hcp => ?_
        refine ord_val rfl rfl rfl rfl (fun _ h => (Sats.keep [false, false, true, true, true, true, true, true, true] h :)) (val_slice_h rfl Try.underlying34 (by kernel_rfl) rfl rfl v.a.keys.length rfl (by omega)) ?_
        refine ord_val rfl rfl rfl rfl (fun _ h => (Sats.keep [false, false, true, true, true, true, true, true, true] h :)) (val_indexAddr rfl Try.underlying23 4 (by kernel_rfl) rfl rfl i rfl hi (Ent.pure hA)) ?_
        refine ord_val rfl rfl rfl rfl (fun _ h => (Sats.keep [false, false, true, true, true, true, true, true, true] h :)) (val_fieldAddr rfl Try.underlying36 3 1 (by kernel_rfl) (by decide) rfl (Ent.pure (by first | rfl | assumption))) ?_
        refine ord_eff0 (eff_store 2 rfl rfl rfl rfl rfl (by kernel_rfl) rfl (by rw [flat_length Ver.cells_len]; simp only [List.length_singleton]; omega) (by simp)) rfl rfl rfl (.inl rfl) (fun _ _ => ?_)
        refine ord_nil ?_
        refine in_on ?_
        refine thru_on ?_
        refine pk_region ?_
        refine pk_val rfl rfl rfl (val_move rfl rfl) ?_
        refine pk_val rfl rfl rfl (val_add rfl rfl rfl (by omega)) ?_
        refine pk_val rfl rfl rfl (val_assign rfl rfl) ?_
        refine pk_nil ?_
        refine thru_on ?_
        refine pk_next (x := ⟨i, vs⟩) ((i + 1, vs.set i ⟨v.a, q104.1, q104.2⟩)) ?_ ?_ ?_ ?_
        · (try dsimp only) <;> exact ⟨by simpa using hvl, by (try dsimp only); rw [← hva]; exact avs_set hiv hv, hi⟩
        · (try dsimp only); exact (by omega)
        · exact ⟨(Sub.cons rfl (by first | rfl | (congr 1; omega) | simp) (Sub.cons rfl (by first | rfl | (congr 1; omega) | simp) (Sub.cons rfl (by first | rfl | (congr 1; omega) | simp) (Sub.cons rfl (by first | rfl | (congr 1; omega) | simp) (Sub.cons rfl (by first | rfl | (congr 1; omega) | simp) (Sub.nil _)))))), rfl⟩
        · exact (fun _ h => by
          (try dsimp only)
          have h1 := Sats.pull 2 rfl ((Sats.keep [false, true, true, true, true, true, true, true, true] h))
          have h2 := (Sats.num_pull (g' := gS (vs.set i ⟨v.a, q104.1, q104.2⟩) (i + 1)) hi (gS_next _) h1).tail
          have h3 := Sats.num_push (g' := gS (vs.set i ⟨v.a, q104.1, q104.2⟩) (i + 1)) hi (by rw [gS_set _ hiv]; rw [Nat.zero_add] at h2; exact Sats.swap h2)
          have h4 := Sats.swap h3
          rw [flat_splice (x := ⟨v.a, q104.1, q104.2⟩) Ver.cells_len dV hiv (Nat.le_refl _) (by rw [← hv]; rfl)] at h4
          exact h4)
      · skip
        refine ord_eff (eff_buildSlice (len := 1) (sz := 1) (z := #[.string ⟨#[]⟩]) rfl Try.underlying34 (by kernel_rfl) rfl rfl rfl (by decide) (by decide) rfl rfl) rfl rfl rfl rfl (.inr fun _ _ => (fun _ h => (Sats.keep [false, false, true, true, true, true, true, true, true] h :))) (fun b103 _ => ?_)
        refine ord_eff (eff_append1 (sz := 1) (bytes := 16) (z := .string ⟨#[]⟩) 1 rfl Try.underlying34 (by kernel_rfl) rfl (by decide) (by decide) rfl rfl rfl (Ent.num 3 rfl hi (fun h o => by rw [gS_new, ← hv] at o; exact own_rd o) (fun _ _ le r => RdL.mono r le)) rfl (by simp) (by simp [Value.oneCell']) (by omega)) rfl rfl rfl rfl (.inr fun _ _ => (fun _ h => (Sats.keep [false, false, true, true, true, true, true, true, true] h :))) (fun q102 _ => ?_)
        refine ord_eff (eff_append1 (sz := 1) (bytes := 16) (z := .string ⟨#[]⟩) 1 rfl Try.underlying34 (by kernel_rfl) rfl (by decide) (by decide) rfl rfl rfl (Ent.own 0 rfl) (by simp) rfl rfl (by omega)) rfl rfl rfl rfl (.inr fun _ _ => (fun _ h => (Sats.keep [false, false, true, true, true, true, true, true, true] h :))) (fun q104 _ => ?_)
        refine Pk.tells (Ent.cap 1 rfl) fun hcp => ?_
        refine ord_val rfl rfl rfl rfl (fun _ h => (Sats.keep [false, false, true, true, true, true, true, true, true] h :)) (val_slice_h rfl Try.underlying34 (by kernel_rfl) rfl rfl v.a.keys.length rfl (by omega)) ?_
        refine ord_val rfl rfl rfl rfl (fun _ h => (Sats.keep [false, false, true, true, true, true, true, true, true] h :)) (val_indexAddr rfl Try.underlying23 4 (by kernel_rfl) rfl rfl i rfl hi (Ent.pure hA)) ?_
        refine ord_val rfl rfl rfl rfl (fun _ h => (Sats.keep [false, false, true, true, true, true, true, true, true] h :)) (val_fieldAddr rfl Try.underlying36 3 1 (by kernel_rfl) (by decide) rfl (Ent.pure (by first | rfl | assumption))) ?_
        refine ord_eff0 (eff_store 2 rfl rfl rfl rfl rfl (by kernel_rfl) rfl (by rw [flat_length Ver.cells_len]; simp only [List.length_singleton]; omega) (by simp)) rfl rfl rfl (.inl rfl) (fun _ _ => ?_)
        refine ord_nil ?_
        refine in_on ?_
        refine thru_on ?_
        refine pk_region ?_
        refine pk_val rfl rfl rfl (val_move rfl rfl) ?_
        refine pk_val rfl rfl rfl (val_add rfl rfl rfl (by omega)) ?_
        refine pk_val rfl rfl rfl (val_assign rfl rfl) ?_
        refine pk_nil ?_
        refine thru_on ?_
        refine pk_next (x := ⟨i, vs⟩) ((i + 1, vs.set i ⟨v.a, q104.1, q104.2⟩)) ?_ ?_ ?_ ?_
        · (try dsimp only) <;> exact ⟨by simpa using hvl, by (try dsimp only); rw [← hva]; exact avs_set hiv hv, hi⟩
        · (try dsimp only); exact (by omega)
        · exact ⟨(Sub.cons rfl (by first | rfl | (congr 1; omega) | simp) (Sub.cons rfl (by first | rfl | (congr 1; omega) | simp) (Sub.cons rfl (by first | rfl | (congr 1; omega) | simp) (Sub.cons rfl (by first | rfl | (congr 1; omega) | simp) (Sub.cons rfl (by first | rfl | (congr 1; omega) | simp) (Sub.nil _)))))), rfl⟩
        · exact (fun _ h => by
          (try dsimp only)
          have h1 := Sats.pull 2 rfl ((Sats.keep [false, true, true, true, true, true, true, true, true] h))
          have h2 := (Sats.num_pull (g' := gS (vs.set i ⟨v.a, q104.1, q104.2⟩) (i + 1)) hi (gS_next _) h1).tail
          have h3 := Sats.num_push (g' := gS (vs.set i ⟨v.a, q104.1, q104.2⟩) (i + 1)) hi (by rw [gS_set _ hiv]; rw [Nat.zero_add] at h2; exact Sats.swap h2)
          have h4 := Sats.swap h3
          rw [flat_splice (x := ⟨v.a, q104.1, q104.2⟩) Ver.cells_len dV hiv (Nat.le_refl _) (by rw [← hv]; rfl)] at h4
          exact h4)
    · skip
      have hin : i = q40.2.2.length := by omega
      subst hin
      have hnn : vs.length ≤ 8 := by omega
      refine pk_exit ?_
      refine thru ?_
      refine thru ?_
      refine pk_here ?_
      refine thru_on ?_
      refine pk_seq ?_
      refine pk_region ?_
      refine Pk.nilrow 36 4 ?_
      refine pk_val rfl rfl rfl (val_move rfl rfl) ?_
      refine pk_eff (eff_append1 (sz := 4) (bytes := 64) (z := .agg #[.string ⟨#[]⟩, .int .u64 0, .string ⟨#[]⟩, .slice none 0 0]) 0 rfl Try.underlying23 (by kernel_rfl) rfl (by decide) (by decide) rfl rfl rfl (Ent.own 1 rfl) rfl (by rw [flat_length Ver.cells_len]; omega) (cells_one vs) (by omega)) rfl rfl rfl (fun q115 _ => ?_)
      refine pk_val rfl rfl rfl (val_build (z := [.string ⟨#[]⟩, .int .u64 0, .string ⟨#[]⟩, .slice none 0 0]) [(0, 1), (1, 1), (2, 1), (3, 1)] rfl Try.underlying36 (by kernel_rfl) (by kernel_rfl) rfl rfl rfl) ?_
      refine pk_eff (eff_buildSlice (len := 1) (sz := 4) (z := #[.string ⟨#[]⟩, .int .u64 0, .string ⟨#[]⟩, .slice none 0 0]) rfl Try.underlying23 (by kernel_rfl) rfl rfl rfl (by decide) (by decide) rfl rfl) rfl rfl rfl (fun b117 _ => ?_)
      refine pk_eff (eff_append1 (sz := 4) (bytes := 64) (z := .agg #[.string ⟨#[]⟩, .int .u64 0, .string ⟨#[]⟩, .slice none 0 0]) 1 rfl Try.underlying23 (by kernel_rfl) rfl (by decide) (by decide) rfl rfl rfl (Ent.own 0 rfl) (by rw [List.nil_append, flat_length Ver.cells_len]; omega) rfl rfl (by omega)) rfl rfl rfl (fun q118 _ => ?_)
      refine pk_val rfl rfl rfl (val_move rfl rfl) ?_
      refine pk_val rfl rfl rfl (val_len_slice rfl Try.underlying23 rfl) ?_
      refine Pk.tells (Ent.cap 1 rfl) fun hcp1 => ?_
      refine pk_val rfl rfl rfl (val_slice_h rfl Try.underlying23 (by kernel_rfl) rfl rfl vs.length (by rw [hvl]) (by omega)) ?_
      refine pk_val rfl rfl rfl (val_assign rfl rfl) ?_
      refine pk_nil ?_
      refine thru_on ?_
      refine pk_seq ?_
      refine pk_region ?_
      refine Pk.nilrow 36 4 ?_
      refine pk_val rfl rfl rfl (val_move rfl rfl) ?_
      refine pk_eff (eff_append1 (sz := 4) (bytes := 64) (z := .agg #[.string ⟨#[]⟩, .int .u64 0, .string ⟨#[]⟩, .slice none 0 0]) 0 rfl Try.underlying23 (by kernel_rfl) rfl (by decide) (by decide) rfl rfl rfl (Ent.own 5 rfl) rfl (by rw [flat_length Ver.cells_len]) (cells_one gs) (by omega)) rfl rfl rfl (fun q123 _ => ?_)
      refine pk_val rfl rfl rfl (val_build (z := [.string ⟨#[]⟩, .int .u64 0, .string ⟨#[]⟩, .slice none 0 0]) [(0, 1), (1, 1), (2, 1), (3, 1)] rfl Try.underlying36 (by kernel_rfl) (by kernel_rfl) rfl rfl rfl) ?_
      refine pk_eff (eff_buildSlice (len := 1) (sz := 4) (z := #[.string ⟨#[]⟩, .int .u64 0, .string ⟨#[]⟩, .slice none 0 0]) rfl Try.underlying23 (by kernel_rfl) rfl rfl rfl (by decide) (by decide) rfl rfl) rfl rfl rfl (fun b125 _ => ?_)
      refine pk_eff (eff_append1 (sz := 4) (bytes := 64) (z := .agg #[.string ⟨#[]⟩, .int .u64 0, .string ⟨#[]⟩, .slice none 0 0]) 1 rfl Try.underlying23 (by kernel_rfl) rfl (by decide) (by decide) rfl rfl rfl (Ent.own 0 rfl) (by rw [List.nil_append, flat_length Ver.cells_len]; omega) rfl rfl (by omega)) rfl rfl rfl (fun q126 _ => ?_)
      refine pk_val rfl rfl rfl (val_move rfl rfl) ?_
      refine pk_val rfl rfl rfl (val_len_slice rfl Try.underlying23 rfl) ?_
      refine Pk.tells (Ent.cap 1 rfl) fun hcp2 => ?_
      refine pk_val rfl rfl rfl (val_slice_h rfl Try.underlying23 (by kernel_rfl) rfl rfl gs.length rfl (by omega)) ?_
      refine pk_val rfl rfl rfl (val_assign rfl rfl) ?_
      refine pk_nil ?_
      refine thru_on ?_
      refine pk_seq ?_
      refine pk_region ?_
      refine pk_val rfl rfl rfl (val_move rfl rfl) ?_
      refine pk_val rfl rfl rfl (val_move rfl rfl) ?_
      refine pk_eff (eff_callx rfl ⟨_, Try.func10, by kernel_rfl, rfl⟩ rfl (fun E w s => fix_Mend_c s (verIn_spare 3 5 rfl rfl hvl (by omega) (by rw [hva]; exact hlk)) (verIn_pre 1 7 rfl rfl (by omega) (by rw [hgs]; exact hgk)))) rfl rfl rfl (fun q133 hq133 => ?_)
      rw [hva, hgs] at hq133
      rw [hva, hgs, hme]
      rw [← hmx] at hq133
      have hlm133 : q133.2.2.length = mx.length := by rw [← hq133, avs_len]
      refine pk_val rfl rfl rfl (val_move rfl rfl) ?_
      refine pk_val rfl rfl rfl (val_extract rfl rfl rfl) ?_
      refine pk_val rfl rfl rfl (val_extract rfl rfl rfl) ?_
      refine pk_val rfl rfl rfl (val_assign rfl rfl) ?_
      refine pk_val rfl rfl rfl (val_assign rfl rfl) ?_
      refine pk_nil ?_
      refine thru_on ?_
      refine pk_seq ?_
      refine pk_region ?_
      refine pk_val rfl rfl rfl (val_move rfl rfl) ?_
      refine pk_val rfl rfl rfl (val_move rfl rfl) ?_
      refine pk_eff (eff_callx rfl ⟨_, Try.func10, by kernel_rfl, rfl⟩ rfl (fun E w s => fix_Mend_c s (verIn_spare 5 7 rfl rfl hvl (by omega) (by rw [hva]; exact hlk)) (verIn_pre 3 9 rfl rfl (by omega) (by rw [hgs]; exact hgk)))) rfl rfl rfl (fun q139 hq139 => ?_)
      rw [hva, hgs] at hq139
      rw [hva, hgs, hme]
      rw [← hmx] at hq139
      have hlm139 : q139.2.2.length = mx.length := by rw [← hq139, avs_len]
      refine pk_val rfl rfl rfl (val_move rfl rfl) ?_
      refine pk_val rfl rfl rfl (val_extract rfl rfl rfl) ?_
      refine pk_val rfl rfl rfl (val_extract rfl rfl rfl) ?_
      refine pk_val rfl rfl rfl (val_assign rfl rfl) ?_
      refine pk_val rfl rfl rfl (val_assign rfl rfl) ?_
      refine pk_nil ?_
      refine thru_on ?_
      refine pk_seq ?_
      refine pk_region ?_
      refine pk_val rfl rfl rfl (val_move rfl rfl) ?_
      refine pk_eff (eff_callx rfl ⟨_, Try.func7, by kernel_rfl, rfl⟩ rfl (fun E w s => fix_Needs_c (vs := vs) s (verIn_spare 7 9 rfl rfl hvl (by omega) (by rw [hva]; exact hlk)))) rfl rfl rfl (fun q144 _ => ?_)
      rw [hva, ← hnd]
      refine pk_val rfl rfl rfl (val_move rfl rfl) ?_
      refine pk_val rfl rfl rfl (val_extract rfl rfl rfl) ?_
      refine pk_val rfl rfl rfl (val_extract rfl rfl rfl) ?_
      refine pk_val rfl rfl rfl (val_assign rfl rfl) ?_
      refine pk_val rfl rfl rfl (val_assign rfl rfl) ?_
      refine pk_nil ?_
      refine thru_on ?_
      refine pk_seq ?_
      refine pk_seq ?_
      refine pk_region ?_
      have hxy : q133.2.2.length = q139.2.2.length := by rw [hlm133, hlm139]
      refine Pk.tells ((Ent.own 8 rfl).some_of (Nat.lt_of_lt_of_le (show 0 < 4 by decide) (by rw [List.length_append]; exact Nat.le_add_left 4 _))) fun hn1 => ?_
      refine Pk.tells ((Ent.own 6 rfl).some_of (Nat.lt_of_lt_of_le (show 0 < 4 by decide) (by rw [List.length_append]; exact Nat.le_add_left 4 _))) fun hn2 => ?_
      refine pk_val rfl rfl rfl (val_move rfl rfl) ?_
      refine pk_val rfl rfl rfl (val_neq rfl rfl rfl) ?_
      refine pk_val rfl rfl rfl (val_move rfl rfl) ?_
      refine pk_guard_yes rfl rfl rfl ?_
      refine pk_val rfl rfl rfl (val_move rfl rfl) ?_
      refine pk_guard_yes rfl rfl rfl ?_
      refine pk_val rfl rfl rfl (val_neq rfl rfl rfl) ?_
      refine pk_val rfl rfl rfl (val_pick rfl rfl rfl rfl) ?_
      refine pk_val rfl rfl rfl (val_move rfl rfl) ?_
      refine pk_guard_yes rfl rfl rfl ?_
      refine pk_val rfl rfl rfl (val_move rfl rfl) ?_
      refine pk_guard_yes rfl rfl rfl ?_
      refine pk_val rfl rfl rfl (val_move rfl rfl) ?_
      refine pk_guard_yes rfl rfl rfl ?_
      refine pk_eff (eff_call1 rfl ⟨_, Try.func11, by kernel_rfl, rfl⟩ rfl (fun E w s => law17_same_c s (verIn_own 3 4 rfl rfl (by omega) (by rw [hq133]; exact hmk)) (verIn_own 1 2 rfl rfl (by omega) (by rw [hq139]; exact hmk)))) rfl rfl rfl (fun _ _ => ?_)
      refine Pk.slot 156 (v := .bool true) rfl (congrArg Value.bool (decide_eq_true (hq133.trans hq139.symm))) ?_
      refine pk_guard_yes rfl rfl rfl ?_
      refine pk_val rfl rfl rfl (val_not rfl rfl) ?_
      refine pk_val rfl rfl rfl (val_pick rfl rfl rfl rfl) ?_
      refine pk_val rfl rfl rfl (val_move rfl rfl) ?_
      refine pk_guard_yes rfl rfl rfl ?_
      refine pk_val rfl rfl rfl (val_move rfl rfl) ?_
      refine pk_guard_yes rfl rfl rfl ?_
      refine pk_val rfl rfl rfl (val_move rfl rfl) ?_
      refine pk_guard_yes rfl rfl rfl ?_
      refine pk_eff (eff_call1 rfl ⟨_, Try.func11, by kernel_rfl, rfl⟩ rfl (fun E w s => law17_same_c s (verIn_spare 8 10 rfl rfl hvl (by omega) (by rw [hva]; exact hlk)) (verIn_own 14 15 rfl rfl (by omega) (by rw [hq44]; exact hlk)))) rfl rfl rfl (fun _ _ => ?_)
      refine Pk.slot 162 (v := .bool true) rfl (congrArg Value.bool (decide_eq_true (hva.trans hq44.symm))) ?_
      refine pk_guard_yes rfl rfl rfl ?_
      refine pk_val rfl rfl rfl (val_not rfl rfl) ?_
      refine pk_val rfl rfl rfl (val_pick rfl rfl rfl rfl) ?_
      refine pk_val rfl rfl rfl (val_move rfl rfl) ?_
      refine pk_guard_yes rfl rfl rfl ?_
      refine pk_val rfl rfl rfl (val_move rfl rfl) ?_
      refine pk_guard_yes rfl rfl rfl ?_
      refine pk_val rfl rfl rfl (val_move rfl rfl) ?_
      refine pk_guard_yes rfl rfl rfl ?_
      refine pk_eff (eff_call1 rfl ⟨_, Try.func11, by kernel_rfl, rfl⟩ rfl (fun E w s => law17_same_c s (verIn_pre 6 12 rfl rfl (by omega) (by rw [hgs]; exact hgk)) (verIn_own 11 12 rfl rfl (by omega) (by rw [hgs]; exact hgk)))) rfl rfl rfl (fun _ _ => ?_)
      refine Pk.slot 168 (v := .bool true) rfl (congrArg Value.bool (decide_eq_true rfl)) ?_
      refine pk_guard_yes rfl rfl rfl ?_
      refine pk_val rfl rfl rfl (val_not rfl rfl) ?_
      refine pk_val rfl rfl rfl (val_pick rfl rfl rfl rfl) ?_
      refine pk_val rfl rfl rfl (val_move rfl rfl) ?_
      refine pk_guard_yes rfl rfl rfl ?_
      refine pk_val rfl rfl rfl (val_move rfl rfl) ?_
      refine pk_guard_yes rfl rfl rfl ?_
      refine pk_val rfl rfl rfl (val_move rfl rfl) ?_
      refine pk_guard_yes rfl rfl rfl ?_
      refine pk_val rfl rfl rfl (val_len_slice rfl Try.underlying23 rfl) ?_
      refine pk_guard_yes rfl rfl rfl ?_
      refine pk_val rfl rfl rfl (val_add rfl rfl rfl (by omega)) ?_
      refine pk_guard_yes rfl rfl rfl ?_
      refine pk_val rfl rfl rfl (val_slice_h rfl Try.underlying23 (by kernel_rfl) rfl rfl (vs.length + 1) rfl (by omega)) ?_
      refine pk_guard_yes rfl rfl rfl ?_
      refine pk_val rfl rfl rfl (val_move rfl rfl) ?_
      refine pk_guard_yes rfl rfl rfl ?_
      refine pk_val rfl rfl rfl (val_len_slice rfl Try.underlying23 rfl) ?_
      refine pk_guard_yes rfl rfl rfl ?_
      refine pk_val rfl rfl rfl (val_indexAddr rfl Try.underlying23 4 (by kernel_rfl) rfl rfl vs.length rfl (by omega) (Ent.pure hn1)) ?_
      refine pk_guard_yes rfl rfl rfl ?_
      refine pk_val rfl rfl rfl (val_fieldAddr rfl Try.underlying36 0 1 (by kernel_rfl) (by decide) rfl (Ent.pure (by first | rfl | assumption))) ?_
      refine pk_guard_yes rfl rfl rfl ?_
      refine pk_val rfl rfl rfl (val_load (v := .string sp) rfl Try.underlying9 rfl rfl ((Ent.own 8 rfl).rd (get_spare vs _ _))) ?_
      refine pk_guard_yes rfl rfl rfl ?_
      refine pk_val rfl rfl rfl (val_str_neq rfl rfl rfl) ?_
      refine Pk.slot 182 (v := .bool false) rfl (congrArg Value.bool (decide_eq_false (fun h => h rfl))) ?_
      refine pk_val rfl rfl rfl (val_pick rfl rfl rfl rfl) ?_
      refine pk_val rfl rfl rfl (val_move rfl rfl) ?_
      refine pk_guard_yes rfl rfl rfl ?_
      refine pk_val rfl rfl rfl (val_move rfl rfl) ?_
      refine pk_guard_yes rfl rfl rfl ?_
      refine pk_val rfl rfl rfl (val_move rfl rfl) ?_
      refine pk_guard_yes rfl rfl rfl ?_
      refine pk_val rfl rfl rfl (val_len_slice rfl Try.underlying23 rfl) ?_
      refine pk_guard_yes rfl rfl rfl ?_
      refine pk_val rfl rfl rfl (val_add rfl rfl rfl (by omega)) ?_
      refine pk_guard_yes rfl rfl rfl ?_
      refine pk_val rfl rfl rfl (val_slice_h rfl Try.underlying23 (by kernel_rfl) rfl rfl (gs.length + 1) rfl (by omega)) ?_
      refine pk_guard_yes rfl rfl rfl ?_
      refine pk_val rfl rfl rfl (val_move rfl rfl) ?_
      refine pk_guard_yes rfl rfl rfl ?_
      refine pk_val rfl rfl rfl (val_len_slice rfl Try.underlying23 rfl) ?_
      refine pk_guard_yes rfl rfl rfl ?_
      refine pk_val rfl rfl rfl (val_indexAddr rfl Try.underlying23 4 (by kernel_rfl) rfl rfl gs.length rfl (by omega) (Ent.pure hn2)) ?_
      refine pk_guard_yes rfl rfl rfl ?_
      refine pk_val rfl rfl rfl (val_fieldAddr rfl Try.underlying36 0 1 (by kernel_rfl) (by decide) rfl (Ent.pure (by first | rfl | assumption))) ?_
      refine pk_guard_yes rfl rfl rfl ?_
      refine pk_val rfl rfl rfl (val_load (v := .string sp) rfl Try.underlying9 rfl rfl ((Ent.own 6 rfl).rd (get_spare gs _ _))) ?_
      refine pk_guard_yes rfl rfl rfl ?_
      refine pk_val rfl rfl rfl (val_str_neq rfl rfl rfl) ?_
      refine Pk.slot 195 (v := .bool false) rfl (congrArg Value.bool (decide_eq_false (fun h => h rfl))) ?_
      refine pk_val rfl rfl rfl (val_pick rfl rfl rfl rfl) ?_
      refine pk_val rfl rfl rfl (val_move rfl rfl) ?_
      refine pk_guard_yes rfl rfl rfl ?_
      refine pk_val rfl rfl rfl (val_move rfl rfl) ?_
      refine pk_guard_yes rfl rfl rfl ?_
      refine pk_val rfl rfl rfl (val_len_slice rfl Try.underlying25 rfl) ?_
      refine pk_guard_yes rfl rfl rfl ?_
      refine pk_val rfl rfl rfl (val_move rfl rfl) ?_
      refine pk_guard_yes rfl rfl rfl ?_
      refine pk_val rfl rfl rfl (val_len_slice rfl Try.underlying25 rfl) ?_
      refine pk_guard_yes rfl rfl rfl ?_
      refine pk_val rfl rfl rfl (val_neq rfl rfl rfl) ?_
      refine Pk.slot 202 (v := .bool false) rfl (congrArg Value.bool (decide_eq_false (fun h => h rfl))) ?_
      refine pk_val rfl rfl rfl (val_pick rfl rfl rfl rfl) ?_
      refine pk_nil ?_
      refine thru_on ?_
      refine pk_cond_f rfl ?_
      refine pk_skip ?_
      refine thru_on ?_
      refine Pk.nilrow 34 1 ?_
      refine pk_seq ?_
      refine pk_region ?_
      refine pk_val rfl rfl rfl (val_move rfl rfl) ?_
      refine pk_val rfl rfl rfl (val_move rfl rfl) ?_
      refine pk_eff (eff_callx rfl ⟨_, Try.func10, by kernel_rfl, rfl⟩ rfl (fun E w s => fix_Mend_c s (verIn_own 15 16 rfl rfl (by omega) (by rw [hq44]; exact hlk)) (verIn_own 12 13 rfl rfl (by omega) (by rw [hgs]; exact hgk)))) rfl rfl rfl (fun q207 hq207 => ?_)
      rw [hq44, hgs] at hq207
      rw [hq44, hgs, hme]
      rw [← hmx] at hq207
      have hlm207 : q207.2.2.length = mx.length := by rw [← hq207, avs_len]
      refine pk_val rfl rfl rfl (val_move rfl rfl) ?_
      refine pk_val rfl rfl rfl (val_extract rfl rfl rfl) ?_
      refine pk_val rfl rfl rfl (val_extract rfl rfl rfl) ?_
      refine pk_val rfl rfl rfl (val_assign rfl rfl) ?_
      refine pk_val rfl rfl rfl (val_assign rfl rfl) ?_
      refine pk_nil ?_
      refine thru_on ?_
      refine pk_seq ?_
      refine pk_region ?_
      refine pk_val rfl rfl rfl (val_assign rfl rfl) ?_
      refine pk_nil ?_
      refine thru_on ?_
      refine pk_seq ?_
      refine pk_seq ?_
      refine pk_region ?_
      refine pk_val rfl rfl rfl (val_assign rfl rfl) ?_
      refine pk_nil ?_
      refine thru_on ?_
      refine pk_block ?_
      refine pk_loop (α := Nat × Option Addr × Nat) ((0, none, 0)) (fun y => [(8, .slice q44.1 q44.2.2.length q44.2.1), (9, .slice q47.1 nd.length q47.2), (11, .slice q gs.length d'), (15, .slice q118.1 vs.length q118.2), (16, .slice q126.1 gs.length q126.2), (19, .slice q139.1 q139.2.2.length q139.2.1), (23, .slice q207.1 q207.2.2.length q207.2.1), (17, .slice q133.1 q133.2.2.length q133.2.1), (21, .slice q144.1 nd.length q144.2), (25, .slice y.2.1 (2 * y.1) y.2.2), (26, .int .i64 (y.1 : Nat))]) (fun y => (own y.2.1 (2 * y.1) y.2.2 34 1 (((interl (q133.2.2.take y.1) (q139.2.2.take y.1)).map rowOf).map rowV)) :: (cat (q133.2.2.map keysCh)) :: (cat (q139.2.2.map keysCh)) :: (own q133.1 q133.2.2.length q133.2.1 36 4 (q133.2.2.flatMap Ver.cells)) :: (own q144.1 nd.length q144.2 33 2 (nd.flatMap wantC)) :: (own q139.1 q139.2.2.length q139.2.1 36 4 (q139.2.2.flatMap Ver.cells)) :: (own q207.1 q207.2.2.length q207.2.1 36 4 (q207.2.2.flatMap Ver.cells)) :: (cat (q207.2.2.map keysCh)) :: (own q126.1 (0 + gs.length + 1) q126.2 36 4 ([] ++ gs.flatMap Ver.cells ++ [.string sp, .int .u64 0, .string ⟨#[]⟩, .slice none 0 0])) :: (own q118.1 (0 + q40.2.2.length + 1) q118.2 36 4 ([] ++ vs.flatMap Ver.cells ++ [.string sp, .int .u64 0, .string ⟨#[]⟩, .slice none 0 0])) :: (cat ((List.range q40.2.2.length).map (gS vs q40.2.2.length))) :: (own q (gs).length d' 36 4 ((gs).flatMap Ver.cells)) :: (cat (gs.map keysCh)) :: (own q44.1 q44.2.2.length q44.2.1 36 4 (q44.2.2.flatMap Ver.cells)) :: (cat (q44.2.2.map keysCh)) :: L) (fun y => y.1 ≤ q133.2.2.length) (fun y => q133.2.2.length - y.1) ?_ ?_ ?_ ?_
      · (try dsimp only); exact Nat.zero_le _
      · exact ⟨(Sub.cons rfl (by first | rfl | (congr 1; omega) | simp) (Sub.cons rfl (by first | rfl | (congr 1; omega) | simp) (Sub.cons rfl (by first | rfl | (congr 1; omega) | simp) (Sub.cons rfl (by first | rfl | (congr 1; omega) | simp) (Sub.cons rfl (by first | rfl | (congr 1; omega) | simp) (Sub.cons rfl (by first | rfl | (congr 1; omega) | simp) (Sub.cons rfl (by first | rfl | (congr 1; omega) | simp) (Sub.cons rfl (by first | rfl | (congr 1; omega) | simp) (Sub.cons rfl (by first | rfl | (congr 1; omega) | simp) (Sub.cons rfl (by first | rfl | (congr 1; omega) | simp) (Sub.cons rfl (by first | rfl | (congr 1; omega) | simp) (Sub.nil _)))))))))))), rfl⟩
      · exact (fun _ h => (Sats.pick 19 [2, 7, 5, 6, 3, 4, 0, 1, 9, 11, 13, 14, 15, 17, 18] rfl h :))
      rintro ⟨k, a, e⟩ hk0
      dsimp only at hk0 ⊢
      refine pk_seq ?_
      refine pk_seq ?_
      refine pk_region ?_
      refine pk_val rfl rfl rfl (val_move rfl rfl) ?_
      refine pk_val rfl rfl rfl (val_move rfl rfl) ?_
      refine pk_val rfl rfl rfl (val_len_slice rfl Try.underlying23 rfl) ?_
      refine pk_val rfl rfl rfl (val_lss rfl rfl rfl) ?_
      refine pk_nil ?_
      refine thru_on ?_
      refine pk_if rfl (fun h3 => ?_) (fun h3 => ?_)
      · skip
        refine pk_skip ?_
        refine thru_on ?_
        have hk : k < q133.2.2.length := by omega
        have hk2 : k < q139.2.2.length := by omega
        refine Pk.tells ((Ent.own 3 rfl).some_of (by rw [flat_length Ver.cells_len]; omega)) fun hA => ?_
        refine Pk.tells ((Ent.own 5 rfl).some_of (by rw [flat_length Ver.cells_len]; omega)) fun hB => ?_
        have hls := ls_len q133.2.2 q139.2.2 k hxy hk0
        refine pk_seq ?_
        refine pk_block ?_
        refine pk_drawk (.val 0 (.val 1 (.val 2 (.val 3 (.val 4 (.val 5 (.val 6 (.val 7 (.val 8 (.val 9 (.val 10 (.eff 11 (.eff 12 (.val 13 .nil)))))))))))))) 1014 [false, true, true, true, true, true, true, true, true, true, true, true, true, true, true] rfl (by kernel_rfl) (fun _ _ _ _ _ h => h) ?_
        refine ord_val rfl rfl rfl rfl (fun _ h => (Sats.keep [false, true, true, true, true, true, true, true, true, true, true, true, true, true, true] h :)) (val_move rfl rfl) ?_
        refine ord_val rfl rfl rfl rfl (fun _ h => (Sats.keep [false, true, true, true, true, true, true, true, true, true, true, true, true, true, true] h :)) (val_move rfl rfl) ?_
        refine ord_val rfl rfl rfl rfl (fun _ h => (Sats.keep [false, true, true, true, true, true, true, true, true, true, true, true, true, true, true] h :)) (val_move rfl rfl) ?_
        refine ord_val rfl rfl rfl rfl (fun _ h => (Sats.keep [false, true, true, true, true, true, true, true, true, true, true, true, true, true, true] h :)) (val_indexAddr rfl Try.underlying23 4 (by kernel_rfl) rfl rfl k rfl hk (Ent.pure hA)) ?_
        refine ord_val rfl rfl rfl rfl (fun _ h => (Sats.keep [false, true, true, true, true, true, true, true, true, true, true, true, true, true, true] h :)) (val_fieldAddr rfl Try.underlying36 3 1 (by kernel_rfl) (by decide) rfl (Ent.pure (by first | rfl | assumption))) ?_
        refine ord_val rfl rfl rfl rfl (fun _ h => (Sats.keep [false, true, true, true, true, true, true, true, true, true, true, true, true, true, true] h :)) (val_load rfl Try.underlying34 rfl rfl ((Ent.own 2 rfl).rd ((get_flat (k := k) Ver.cells_len dV hk (by decide)).trans rfl))) ?_
        refine ord_val rfl rfl rfl rfl (fun _ h => (Sats.keep [false, true, true, true, true, true, true, true, true, true, true, true, true, true, true] h :)) (val_move rfl rfl) ?_
        refine ord_val rfl rfl rfl rfl (fun _ h => (Sats.keep [false, true, true, true, true, true, true, true, true, true, true, true, true, true, true] h :)) (val_move rfl rfl) ?_
        refine ord_val rfl rfl rfl rfl (fun _ h => (Sats.keep [false, true, true, true, true, true, true, true, true, true, true, true, true, true, true] h :)) (val_indexAddr rfl Try.underlying23 4 (by kernel_rfl) rfl rfl k rfl hk2 (Ent.pure hB)) ?_
        refine ord_val rfl rfl rfl rfl (fun _ h => (Sats.keep [false, true, true, true, true, true, true, true, true, true, true, true, true, true, true] h :)) (val_fieldAddr rfl Try.underlying36 3 1 (by kernel_rfl) (by decide) rfl (Ent.pure (by first | rfl | assumption))) ?_
        refine ord_val rfl rfl rfl rfl (fun _ h => (Sats.keep [false, true, true, true, true, true, true, true, true, true, true, true, true, true, true] h :)) (val_load rfl Try.underlying34 rfl rfl ((Ent.own 4 rfl).rd ((get_flat (k := k) Ver.cells_len dV hk2 (by decide)).trans rfl))) ?_
        refine ord_eff (eff_buildSlice (len := 2) (sz := 1) (z := #[.slice none 0 0]) rfl Try.underlying41 (by kernel_rfl) rfl rfl rfl (by decide) (by decide) rfl rfl) rfl rfl rfl rfl (.inr fun _ _ => (fun _ h => (Sats.keep [false, false, true, true, true, true, true, true, true, true, true, true, true, true, true, true] h :))) (fun b227 _ => ?_)
        refine ord_eff (eff_append1 (sz := 1) (bytes := 24) (z := .slice none 0 0) 1 rfl Try.underlying41 (by kernel_rfl) rfl (by decide) (by decide) rfl rfl rfl (Ent.own 0 rfl) (by rw [hls, Nat.mul_one]) rfl rfl (by omega)) rfl rfl rfl rfl (.inr fun _ _ => (fun _ h => (Sats.keep [false, false, true, true, true, true, true, true, true, true, true, true, true, true, true, true] h :))) (fun q228 _ => ?_)
        refine ord_val rfl rfl rfl rfl (fun _ h => (Sats.keep [false, false, true, true, true, true, true, true, true, true, true, true, true, true, true, true] h :)) (val_assign rfl rfl) ?_
        refine ord_nil ?_
        refine in_on ?_
        refine thru_on ?_
        refine pk_region ?_
        refine pk_val rfl rfl rfl (val_move rfl rfl) ?_
        refine pk_val rfl rfl rfl (val_add rfl rfl rfl (by omega)) ?_
        refine pk_val rfl rfl rfl (val_assign rfl rfl) ?_
        refine pk_nil ?_
        refine thru_on ?_
        refine pk_next (x := ⟨k, a, e⟩) ((k + 1, q228.1, q228.2)) ?_ ?_ ?_ ?_
        · (try dsimp only) <;> exact hk
        · (try dsimp only); exact (by omega)
        · exact ⟨(Sub.cons rfl (by first | rfl | (congr 1; omega) | simp) (Sub.cons rfl (by first | rfl | (congr 1; omega) | simp) (Sub.cons rfl (by first | rfl | (congr 1; omega) | simp) (Sub.cons rfl (by first | rfl | (congr 1; omega) | simp) (Sub.cons rfl (by first | rfl | (congr 1; omega) | simp) (Sub.cons rfl (by first | rfl | (congr 1; omega) | simp) (Sub.cons rfl (by first | rfl | (congr 1; omega) | simp) (Sub.cons rfl (by first | rfl | (congr 1; omega) | simp) (Sub.cons rfl (by first | rfl | (congr 1; omega) | simp) (Sub.cons rfl (by first | rfl | (congr 1; omega) | simp) (Sub.cons rfl (by first | rfl | (congr 1; omega) | simp) (Sub.nil _)))))))))))), rfl⟩
        · exact (fun _ h => by
          (try dsimp only)
          rw [interl_snoc _ _ k hk hxy, List.map_append, List.map_append]
          exact (Sats.keep [false, true, true, true, true, true, true, true, true, true, true, true, true, true, true, true] h))
      · skip
        have hkn : k = q133.2.2.length := by omega
        have ht1 : q133.2.2.take k = q133.2.2 := List.take_of_length_le (by omega)
        have ht2 : q139.2.2.take k = q139.2.2 := List.take_of_length_le (by omega)
        rw [ht1, ht2]
        have hil := interl_len q133.2.2 q139.2.2 hxy
        refine Pk.slot 25 (v := .slice a ((interl q133.2.2 q139.2.2).map rowOf).length e) rfl (by rw [List.length_map, hil, hkn]) ?_
        refine Pk.heap (fun _ h => keys_rows _ (Sats.interl _ _ hxy (((Sats.pick 15 [1, 2, 0, 3, 4, 5, 6, 7, 8, 9, 10, 11, 12, 13, 14] rfl h :))))) ?_
        refine pk_exit ?_
        refine thru ?_
        refine thru ?_
        refine pk_here ?_
        refine thru_on ?_
        refine pk_seq ?_
        refine pk_seq ?_
        refine pk_region ?_
        have hxk : ∀ v ∈ q133.2.2, v.a.keys.length ≤ 1099511627776 := fun v hv => hmk _ (by rw [← hq133]; exact List.mem_map.2 ⟨v, hv, rfl⟩)
        have hyk : ∀ v ∈ q139.2.2, v.a.keys.length ≤ 1099511627776 := fun v hv => hmk _ (by rw [← hq139]; exact List.mem_map.2 ⟨v, hv, rfl⟩)
        refine pk_val rfl rfl rfl (val_move rfl rfl) ?_
        refine pk_eff (eff_call1 rfl ⟨_, Try.func12, by kernel_rfl, rfl⟩ rfl (fun E w s => law17_marked_c s (Ent.own 0 rfl) (by rw [List.length_map, hil]; omega) (fun r hr => rows_small hr hxk hyk))) rfl rfl rfl (fun _ _ => ?_)
        refine pk_val rfl rfl rfl (val_not rfl rfl) ?_
        refine pk_nil ?_
        refine thru_on ?_
        refine pk_cond_f rfl ?_
        refine pk_skip ?_
        refine thru_on ?_
        refine pk_seq ?_
        refine pk_seq ?_
        refine pk_region ?_
        refine pk_val rfl rfl rfl (val_assign rfl rfl) ?_
        refine pk_nil ?_
        refine thru_on ?_
        refine pk_block ?_
        refine pk_loop (α := Nat × List Value) ((0, q133.2.2.flatMap Ver.cells)) (fun y => [(8, .slice q44.1 q44.2.2.length q44.2.1), (9, .slice q47.1 nd.length q47.2), (11, .slice q gs.length d'), (15, .slice q118.1 vs.length q118.2), (16, .slice q126.1 gs.length q126.2), (19, .slice q139.1 q139.2.2.length q139.2.1), (23, .slice q207.1 q207.2.2.length q207.2.1), (17, .slice q133.1 q133.2.2.length q133.2.1), (21, .slice q144.1 nd.length q144.2), (27, .int .i64 (y.1 : Nat))]) (fun y => (own q133.1 q133.2.2.length q133.2.1 36 4 y.2) :: (own q144.1 nd.length q144.2 33 2 (nd.flatMap wantC)) :: (own q139.1 q139.2.2.length q139.2.1 36 4 (q139.2.2.flatMap Ver.cells)) :: (own q207.1 q207.2.2.length q207.2.1 36 4 (q207.2.2.flatMap Ver.cells)) :: (cat (q207.2.2.map keysCh)) :: (own q126.1 (0 + gs.length + 1) q126.2 36 4 ([] ++ gs.flatMap Ver.cells ++ [.string sp, .int .u64 0, .string ⟨#[]⟩, .slice none 0 0])) :: (own q118.1 (0 + q40.2.2.length + 1) q118.2 36 4 ([] ++ vs.flatMap Ver.cells ++ [.string sp, .int .u64 0, .string ⟨#[]⟩, .slice none 0 0])) :: (cat ((List.range q40.2.2.length).map (gS vs q40.2.2.length))) :: (own q (gs).length d' 36 4 ((gs).flatMap Ver.cells)) :: (cat (gs.map keysCh)) :: (own q44.1 q44.2.2.length q44.2.1 36 4 (q44.2.2.flatMap Ver.cells)) :: (cat (q44.2.2.map keysCh)) :: L) (fun y => y.1 ≤ q133.2.2.length ∧ y.2.length = q133.2.2.length * 4) (fun y => q133.2.2.length - y.1) ?_ ?_ ?_ ?_
        · (try dsimp only); exact ⟨Nat.zero_le _, flat_length Ver.cells_len _⟩
        · exact ⟨(Sub.cons rfl (by first | rfl | (congr 1; omega) | simp) (Sub.cons rfl (by first | rfl | (congr 1; omega) | simp) (Sub.cons rfl (by first | rfl | (congr 1; omega) | simp) (Sub.cons rfl (by first | rfl | (congr 1; omega) | simp) (Sub.cons rfl (by first | rfl | (congr 1; omega) | simp) (Sub.cons rfl (by first | rfl | (congr 1; omega) | simp) (Sub.cons rfl (by first | rfl | (congr 1; omega) | simp) (Sub.cons rfl (by first | rfl | (congr 1; omega) | simp) (Sub.cons rfl (by first | rfl | (congr 1; omega) | simp) (Sub.cons rfl (by first | rfl | (congr 1; omega) | simp) (Sub.nil _))))))))))), rfl⟩
        · exact (fun _ h => Sats.keep [false, true, true, true, true, true, true, true, true, true, true, true, true] h)
        rintro ⟨k, zs⟩ ⟨hk0, hzl⟩
        dsimp only at hk0 hzl ⊢
        refine pk_seq ?_
        refine pk_seq ?_
        refine pk_region ?_
        refine pk_val rfl rfl rfl (val_move rfl rfl) ?_
        refine pk_val rfl rfl rfl (val_move rfl rfl) ?_
        refine pk_val rfl rfl rfl (val_len_slice rfl Try.underlying23 rfl) ?_
        refine pk_val rfl rfl rfl (val_lss rfl rfl rfl) ?_
        refine pk_nil ?_
        refine thru_on ?_
        refine pk_if rfl (fun h4 => ?_) (fun h4 => ?_)
        · skip
          refine pk_skip ?_
          refine thru_on ?_
          have hk : k < q133.2.2.length := by omega
          refine Pk.tells ((Ent.own 0 rfl).some_of (by omega)) fun hA => ?_
          refine pk_seq ?_
          refine pk_block ?_
          refine pk_region ?_
          refine pk_val rfl rfl rfl (val_move rfl rfl) ?_
          refine pk_val rfl rfl rfl (val_move rfl rfl) ?_
          refine pk_val rfl rfl rfl (val_indexAddr rfl Try.underlying23 4 (by kernel_rfl) rfl rfl k rfl hk (Ent.pure hA)) ?_
          refine pk_val rfl rfl rfl (val_fieldAddr rfl Try.underlying36 0 1 (by kernel_rfl) (by decide) rfl (Ent.pure (by first | rfl | assumption))) ?_
          refine pk_eff0 (eff_store 0 rfl rfl rfl rfl rfl (by kernel_rfl) rfl (by simp only [List.length_singleton]; omega) (by simp)) rfl rfl (fun _ _ => ?_)
          refine pk_nil ?_
          refine in_on ?_
          refine thru_on ?_
          refine pk_region ?_
          refine pk_val rfl rfl rfl (val_move rfl rfl) ?_
          refine pk_val rfl rfl rfl (val_add rfl rfl rfl (by omega)) ?_
          refine pk_val rfl rfl rfl (val_assign rfl rfl) ?_
          refine pk_nil ?_
          refine thru_on ?_
          refine pk_next (x := ⟨k, zs⟩) ((k + 1, splice zs (k * 4 + 0) [.string ⟨#[63]⟩])) ?_ ?_ ?_ ?_
          · (try dsimp only) <;> exact ⟨hk, by (try dsimp only); rw [splice_length (by simp; omega)]; exact hzl⟩
          · (try dsimp only); exact (by omega)
          · exact ⟨(Sub.cons rfl (by first | rfl | (congr 1; omega) | simp) (Sub.cons rfl (by first | rfl | (congr 1; omega) | simp) (Sub.cons rfl (by first | rfl | (congr 1; omega) | simp) (Sub.cons rfl (by first | rfl | (congr 1; omega) | simp) (Sub.cons rfl (by first | rfl | (congr 1; omega) | simp) (Sub.cons rfl (by first | rfl | (congr 1; omega) | simp) (Sub.cons rfl (by first | rfl | (congr 1; omega) | simp) (Sub.cons rfl (by first | rfl | (congr 1; omega) | simp) (Sub.cons rfl (by first | rfl | (congr 1; omega) | simp) (Sub.cons rfl (by first | rfl | (congr 1; omega) | simp) (Sub.nil _))))))))))), rfl⟩
          · exact (fun _ h => h)
        · skip
          refine pk_exit ?_
          refine thru ?_
          refine thru ?_
          refine pk_here ?_
          refine thru_on ?_
          refine pk_seq ?_
          refine pk_region ?_
          refine pk_val rfl rfl rfl (val_move rfl rfl) ?_
          refine pk_val rfl rfl rfl (val_build (z := [.string ⟨#[]⟩, .int .u64 0, .string ⟨#[]⟩, .slice none 0 0]) [(0, 1), (1, 1), (2, 1), (3, 1)] rfl Try.underlying36 (by kernel_rfl) (by kernel_rfl) rfl rfl rfl) ?_
          refine pk_eff (eff_buildSlice (len := 1) (sz := 4) (z := #[.string ⟨#[]⟩, .int .u64 0, .string ⟨#[]⟩, .slice none 0 0]) rfl Try.underlying23 (by kernel_rfl) rfl rfl rfl (by decide) (by decide) rfl rfl) rfl rfl rfl (fun b244 _ => ?_)
          refine pk_eff (eff_append1 (sz := 4) (bytes := 64) (z := .agg #[.string ⟨#[]⟩, .int .u64 0, .string ⟨#[]⟩, .slice none 0 0]) 1 rfl Try.underlying23 (by kernel_rfl) rfl (by decide) (by decide) rfl rfl rfl (Ent.own 0 rfl) hzl rfl rfl (by omega)) rfl rfl rfl (fun q245 _ => ?_)
          refine pk_val rfl rfl rfl (val_assign rfl rfl) ?_
          refine pk_nil ?_
          refine thru_on ?_
          refine pk_seq ?_
          refine pk_seq ?_
          refine pk_region ?_
          refine pk_val rfl rfl rfl (val_assign rfl rfl) ?_
          refine pk_nil ?_
          refine thru_on ?_
          refine pk_block ?_
          refine pk_loop (α := Nat × List Value) ((0, nd.flatMap wantC)) (fun y => [(8, .slice q44.1 q44.2.2.length q44.2.1), (9, .slice q47.1 nd.length q47.2), (11, .slice q gs.length d'), (15, .slice q118.1 vs.length q118.2), (16, .slice q126.1 gs.length q126.2), (19, .slice q139.1 q139.2.2.length q139.2.1), (23, .slice q207.1 q207.2.2.length q207.2.1), (17, .slice q245.1 (q133.2.2.length + 1) q245.2), (21, .slice q144.1 nd.length q144.2), (28, .int .i64 (y.1 : Nat))]) (fun y => (own q144.1 nd.length q144.2 33 2 y.2) :: (own q139.1 q139.2.2.length q139.2.1 36 4 (q139.2.2.flatMap Ver.cells)) :: (own q207.1 q207.2.2.length q207.2.1 36 4 (q207.2.2.flatMap Ver.cells)) :: (cat (q207.2.2.map keysCh)) :: (own q126.1 (0 + gs.length + 1) q126.2 36 4 ([] ++ gs.flatMap Ver.cells ++ [.string sp, .int .u64 0, .string ⟨#[]⟩, .slice none 0 0])) :: (own q118.1 (0 + q40.2.2.length + 1) q118.2 36 4 ([] ++ vs.flatMap Ver.cells ++ [.string sp, .int .u64 0, .string ⟨#[]⟩, .slice none 0 0])) :: (cat ((List.range q40.2.2.length).map (gS vs q40.2.2.length))) :: (own q (gs).length d' 36 4 ((gs).flatMap Ver.cells)) :: (cat (gs.map keysCh)) :: (own q44.1 q44.2.2.length q44.2.1 36 4 (q44.2.2.flatMap Ver.cells)) :: (cat (q44.2.2.map keysCh)) :: L) (fun y => y.1 ≤ nd.length ∧ y.2.length = nd.length * 2) (fun y => nd.length - y.1) ?_ ?_ ?_ ?_
          · (try dsimp only); exact ⟨Nat.zero_le _, flat_length wantC_len _⟩
          · exact ⟨(Sub.cons rfl (by first | rfl | (congr 1; omega) | simp) (Sub.cons rfl (by first | rfl | (congr 1; omega) | simp) (Sub.cons rfl (by first | rfl | (congr 1; omega) | simp) (Sub.cons rfl (by first | rfl | (congr 1; omega) | simp) (Sub.cons rfl (by first | rfl | (congr 1; omega) | simp) (Sub.cons rfl (by first | rfl | (congr 1; omega) | simp) (Sub.cons rfl (by first | rfl | (congr 1; omega) | simp) (Sub.cons rfl (by first | rfl | (congr 1; omega) | simp) (Sub.cons rfl (by first | rfl | (congr 1; omega) | simp) (Sub.cons rfl (by first | rfl | (congr 1; omega) | simp) (Sub.nil _))))))))))), rfl⟩
          · exact (fun _ h => Sats.keep [false, false, true, true, true, true, true, true, true, true, true, true, true] h)
          rintro ⟨k2, us⟩ ⟨hk3, hul⟩
          dsimp only at hk3 hul ⊢
          refine pk_seq ?_
          refine pk_seq ?_
          refine pk_region ?_
          refine pk_val rfl rfl rfl (val_move rfl rfl) ?_
          refine pk_val rfl rfl rfl (val_move rfl rfl) ?_
          refine pk_val rfl rfl rfl (val_len_slice rfl Try.underlying25 rfl) ?_
          refine pk_val rfl rfl rfl (val_lss rfl rfl rfl) ?_
          refine pk_nil ?_
          refine thru_on ?_
          refine pk_if rfl (fun h5 => ?_) (fun h5 => ?_)
          · skip
            refine pk_skip ?_
            refine thru_on ?_
            have hk4 : k2 < nd.length := by omega
            refine Pk.tells ((Ent.own 0 rfl).some_of (by omega)) fun hA => ?_
            refine pk_seq ?_
            refine pk_block ?_
            refine pk_region ?_
            refine pk_val rfl rfl rfl (val_move rfl rfl) ?_
            refine pk_val rfl rfl rfl (val_move rfl rfl) ?_
            refine pk_val rfl rfl rfl (val_indexAddr rfl Try.underlying25 2 (by kernel_rfl) rfl rfl k2 rfl hk4 (Ent.pure hA)) ?_
            refine pk_val rfl rfl rfl (val_fieldAddr rfl Try.underlying33 0 1 (by kernel_rfl) (by decide) rfl (Ent.pure (by first | rfl | assumption))) ?_
            refine pk_eff0 (eff_store 0 rfl rfl rfl rfl rfl (by kernel_rfl) rfl (by simp only [List.length_singleton]; omega) (by simp)) rfl rfl (fun _ _ => ?_)
            refine pk_nil ?_
            refine in_on ?_
            refine thru_on ?_
            refine pk_region ?_
            refine pk_val rfl rfl rfl (val_move rfl rfl) ?_
            refine pk_val rfl rfl rfl (val_add rfl rfl rfl (by omega)) ?_
            refine pk_val rfl rfl rfl (val_assign rfl rfl) ?_
            refine pk_nil ?_
            refine thru_on ?_
            refine pk_next (x := ⟨k2, us⟩) ((k2 + 1, splice us (k2 * 2 + 0) [.string ⟨#[63]⟩])) ?_ ?_ ?_ ?_
            · (try dsimp only) <;> exact ⟨hk4, by (try dsimp only); rw [splice_length (by simp; omega)]; exact hul⟩
            · (try dsimp only); exact (by omega)
            · exact ⟨(Sub.cons rfl (by first | rfl | (congr 1; omega) | simp) (Sub.cons rfl (by first | rfl | (congr 1; omega) | simp) (Sub.cons rfl (by first | rfl | (congr 1; omega) | simp) (Sub.cons rfl (by first | rfl | (congr 1; omega) | simp) (Sub.cons rfl (by first | rfl | (congr 1; omega) | simp) (Sub.cons rfl (by first | rfl | (congr 1; omega) | simp) (Sub.cons rfl (by first | rfl | (congr 1; omega) | simp) (Sub.cons rfl (by first | rfl | (congr 1; omega) | simp) (Sub.cons rfl (by first | rfl | (congr 1; omega) | simp) (Sub.cons rfl (by first | rfl | (congr 1; omega) | simp) (Sub.nil _))))))))))), rfl⟩
            · exact (fun _ h => h)
          · skip
            refine pk_exit ?_
            refine thru ?_
            refine thru ?_
            refine pk_here ?_
            refine thru_on ?_
            refine pk_seq ?_
            refine pk_seq ?_
            refine pk_region ?_
            refine pk_val rfl rfl rfl (val_assign rfl rfl) ?_
            refine pk_nil ?_
            refine thru_on ?_
            refine pk_block ?_
            refine pk_loop (α := Nat) (0) (fun i => [(8, .slice q44.1 q44.2.2.length q44.2.1), (9, .slice q47.1 nd.length q47.2), (11, .slice q gs.length d'), (15, .slice q118.1 vs.length q118.2), (16, .slice q126.1 gs.length q126.2), (19, .slice q139.1 q139.2.2.length q139.2.1), (23, .slice q207.1 q207.2.2.length q207.2.1), (17, .slice q245.1 (q133.2.2.length + 1) q245.2), (29, .int .i64 (i : Nat))]) (fun i => (own q139.1 q139.2.2.length q139.2.1 36 4 (q139.2.2.flatMap Ver.cells)) :: (own q207.1 q207.2.2.length q207.2.1 36 4 (q207.2.2.flatMap Ver.cells)) :: (cat (q207.2.2.map keysCh)) :: (own q126.1 (0 + gs.length + 1) q126.2 36 4 ([] ++ gs.flatMap Ver.cells ++ [.string sp, .int .u64 0, .string ⟨#[]⟩, .slice none 0 0])) :: (own q118.1 (0 + q40.2.2.length + 1) q118.2 36 4 ([] ++ vs.flatMap Ver.cells ++ [.string sp, .int .u64 0, .string ⟨#[]⟩, .slice none 0 0])) :: (cat ((List.range q40.2.2.length).map (gS vs q40.2.2.length))) :: (own q (gs).length d' 36 4 ((gs).flatMap Ver.cells)) :: (cat (gs.map keysCh)) :: (own q44.1 q44.2.2.length q44.2.1 36 4 (q44.2.2.flatMap Ver.cells)) :: (cat (q44.2.2.map keysCh)) :: L) (fun i => i ≤ vs.length) (fun i => vs.length - i) ?_ ?_ ?_ ?_
            · (try dsimp only); exact Nat.zero_le _
            · exact ⟨(Sub.cons rfl (by first | rfl | (congr 1; omega) | simp) (Sub.cons rfl (by first | rfl | (congr 1; omega) | simp) (Sub.cons rfl (by first | rfl | (congr 1; omega) | simp) (Sub.cons rfl (by first | rfl | (congr 1; omega) | simp) (Sub.cons rfl (by first | rfl | (congr 1; omega) | simp) (Sub.cons rfl (by first | rfl | (congr 1; omega) | simp) (Sub.cons rfl (by first | rfl | (congr 1; omega) | simp) (Sub.cons rfl (by first | rfl | (congr 1; omega) | simp) (Sub.cons rfl (by first | rfl | (congr 1; omega) | simp) (Sub.nil _)))))))))), rfl⟩
            · exact (fun _ h => Sats.keep [false, true, true, true, true, true, true, true, true, true, true] h)
            rintro i hi5
            refine pk_seq ?_
            refine pk_seq ?_
            refine pk_region ?_
            refine pk_val rfl rfl rfl (val_move rfl rfl) ?_
            refine pk_val rfl rfl rfl (val_move rfl rfl) ?_
            refine pk_val rfl rfl rfl (val_len_slice rfl Try.underlying23 rfl) ?_
            refine pk_val rfl rfl rfl (val_lss rfl rfl rfl) ?_
            refine pk_nil ?_
            refine thru_on ?_
            refine pk_if rfl (fun h6 => ?_) (fun h6 => ?_)
            · skip
              refine pk_skip ?_
              refine thru_on ?_
              have hi : i < vs.length := by omega
              have hi6 : i < q40.2.2.length := by omega
              have hkl8 : (vs.getD i dV).a.keys.length ≤ 8 := hl8 _ (by rw [← hva]; exact List.mem_map.2 ⟨_, getD_mem dV hi, rfl⟩)
              refine Pk.tells ((Ent.own 4 rfl).some_of (by rw [List.nil_append, List.length_append, flat_length Ver.cells_len]; omega)) fun hA => ?_
              have hrd := Ent.num (L := (own q139.1 q139.2.2.length q139.2.1 36 4 (q139.2.2.flatMap Ver.cells)) :: (own q207.1 q207.2.2.length q207.2.1 36 4 (q207.2.2.flatMap Ver.cells)) :: (cat (q207.2.2.map keysCh)) :: (own q126.1 (0 + gs.length + 1) q126.2 36 4 ([] ++ gs.flatMap Ver.cells ++ [.string sp, .int .u64 0, .string ⟨#[]⟩, .slice none 0 0])) :: (own q118.1 (0 + q40.2.2.length + 1) q118.2 36 4 ([] ++ vs.flatMap Ver.cells ++ [.string sp, .int .u64 0, .string ⟨#[]⟩, .slice none 0 0])) :: (cat ((List.range q40.2.2.length).map (gS vs q40.2.2.length))) :: (own q (gs).length d' 36 4 ((gs).flatMap Ver.cells)) :: (cat (gs.map keysCh)) :: (own q44.1 q44.2.2.length q44.2.1 36 4 (q44.2.2.flatMap Ver.cells)) :: (cat (q44.2.2.map keysCh)) :: L) 5 rfl (j := i) hi6 (fun h o => by rw [gS_old hi6] at o; exact own_rd o) (fun _ _ le r => RdL.mono r le)
              have hcap := Ent.num (L := (own q139.1 q139.2.2.length q139.2.1 36 4 (q139.2.2.flatMap Ver.cells)) :: (own q207.1 q207.2.2.length q207.2.1 36 4 (q207.2.2.flatMap Ver.cells)) :: (cat (q207.2.2.map keysCh)) :: (own q126.1 (0 + gs.length + 1) q126.2 36 4 ([] ++ gs.flatMap Ver.cells ++ [.string sp, .int .u64 0, .string ⟨#[]⟩, .slice none 0 0])) :: (own q118.1 (0 + q40.2.2.length + 1) q118.2 36 4 ([] ++ vs.flatMap Ver.cells ++ [.string sp, .int .u64 0, .string ⟨#[]⟩, .slice none 0 0])) :: (cat ((List.range q40.2.2.length).map (gS vs q40.2.2.length))) :: (own q (gs).length d' 36 4 ((gs).flatMap Ver.cells)) :: (cat (gs.map keysCh)) :: (own q44.1 q44.2.2.length q44.2.1 36 4 (q44.2.2.flatMap Ver.cells)) :: (cat (q44.2.2.map keysCh)) :: L) (F := fun _ => (vs.getD i dV).a.keys.length + 1 ≤ (vs.getD i dV).c) 5 rfl (j := i) hi6 (fun h o => by rw [gS_old hi6] at o; exact o.2.1) (fun _ _ le r => r)
              refine Pk.tells hcap fun hcapv => ?_
              refine Pk.tells (hrd.some_of (by simp)) fun hA2 => ?_
              refine pk_seq ?_
              refine pk_block ?_
              refine pk_seq ?_
              refine pk_drawk (.val 0 (.val 1 (.val 2 (.val 3 (.val 4 (.val 5 (.val 6 (.val 7 (.val 8 (.val 9 (.val 10 (.val 11 (.val 12 (.val 13 (.val 14 (.val 15 (.val 16 (.val 17 (.val 18 (.val 19 (.val 20 (.val 21 .nil)))))))))))))))))))))) 1022 [] rfl (by kernel_rfl) (fun _ _ _ _ _ h => h) ?_
              refine ord_val rfl rfl rfl rfl (fun _ h => h) (val_move rfl rfl) ?_
              refine ord_val rfl rfl rfl rfl (fun _ h => h) (val_move rfl rfl) ?_
              refine ord_val rfl rfl rfl rfl (fun _ h => h) (val_indexAddr rfl Try.underlying23 4 (by kernel_rfl) rfl rfl i rfl hi (Ent.pure hA)) ?_
              refine ord_val rfl rfl rfl rfl (fun _ h => h) (val_fieldAddr rfl Try.underlying36 3 1 (by kernel_rfl) (by decide) rfl (Ent.pure (by first | rfl | assumption))) ?_
              refine ord_val rfl rfl rfl rfl (fun _ h => h) (val_load (v := .slice (vs.getD i dV).A (vs.getD i dV).a.keys.length (vs.getD i dV).c) rfl Try.underlying34 rfl rfl ((Ent.own 4 rfl).rd ((pre_get vs _ hi (by decide)).trans rfl))) ?_
              refine ord_val rfl rfl rfl rfl (fun _ h => h) (val_move rfl rfl) ?_
              refine ord_val rfl rfl rfl rfl (fun _ h => h) (val_move rfl rfl) ?_
              refine ord_val rfl rfl rfl rfl (fun _ h => h) (val_indexAddr rfl Try.underlying23 4 (by kernel_rfl) rfl rfl i rfl hi (Ent.pure hA)) ?_
              refine ord_val rfl rfl rfl rfl (fun _ h => h) (val_fieldAddr rfl Try.underlying36 3 1 (by kernel_rfl) (by decide) rfl (Ent.pure (by first | rfl | assumption))) ?_
              refine ord_val rfl rfl rfl rfl (fun _ h => h) (val_load (v := .slice (vs.getD i dV).A (vs.getD i dV).a.keys.length (vs.getD i dV).c) rfl Try.underlying34 rfl rfl ((Ent.own 4 rfl).rd ((pre_get vs _ hi (by decide)).trans rfl))) ?_
              refine ord_val rfl rfl rfl rfl (fun _ h => h) (val_len_slice rfl Try.underlying34 rfl) ?_
              refine ord_val rfl rfl rfl rfl (fun _ h => h) (val_add rfl rfl rfl (by omega)) ?_
              refine ord_val rfl rfl rfl rfl (fun _ h => h) (val_slice_h rfl Try.underlying34 (by kernel_rfl) rfl rfl ((vs.getD i dV).a.keys.length + 1) rfl hcapv) ?_
              refine ord_val rfl rfl rfl rfl (fun _ h => h) (val_move rfl rfl) ?_
              refine ord_val rfl rfl rfl rfl (fun _ h => h) (val_move rfl rfl) ?_
              refine ord_val rfl rfl rfl rfl (fun _ h => h) (val_indexAddr rfl Try.underlying23 4 (by kernel_rfl) rfl rfl i rfl hi (Ent.pure hA)) ?_
              refine ord_val rfl rfl rfl rfl (fun _ h => h) (val_fieldAddr rfl Try.underlying36 3 1 (by kernel_rfl) (by decide) rfl (Ent.pure (by first | rfl | assumption))) ?_
              refine ord_val rfl rfl rfl rfl (fun _ h => h) (val_load (v := .slice (vs.getD i dV).A (vs.getD i dV).a.keys.length (vs.getD i dV).c) rfl Try.underlying34 rfl rfl ((Ent.own 4 rfl).rd ((pre_get vs _ hi (by decide)).trans rfl))) ?_
              refine ord_val rfl rfl rfl rfl (fun _ h => h) (val_len_slice rfl Try.underlying34 rfl) ?_
              refine ord_val rfl rfl rfl rfl (fun _ h => h) (val_indexAddr rfl Try.underlying34 1 (by kernel_rfl) rfl rfl (vs.getD i dV).a.keys.length rfl (by omega) (Ent.pure hA2)) ?_
              refine ord_val rfl rfl rfl rfl (fun _ h => h) (val_load (v := .string sp) rfl Try.underlying9 rfl rfl (hrd.rd (by rw [Nat.mul_one]; simp))) ?_
              refine ord_val rfl rfl rfl rfl (fun _ h => h) (val_str_neq rfl rfl rfl) ?_
              refine ord_nil ?_
              refine thru_on ?_
              refine pk_cond_f rfl ?_
              refine pk_skip ?_
              refine in_on ?_
              refine thru_on ?_
              refine pk_region ?_
              refine pk_val rfl rfl rfl (val_move rfl rfl) ?_
              refine pk_val rfl rfl rfl (val_add rfl rfl rfl (by omega)) ?_
              refine pk_val rfl rfl rfl (val_assign rfl rfl) ?_
              refine pk_nil ?_
              refine thru_on ?_
              refine pk_next (x := i) (i + 1) ?_ ?_ ?_ ?_
              · (try dsimp only) <;> exact hi
              · (try dsimp only); exact (by omega)
              · exact ⟨(Sub.cons rfl (by first | rfl | (congr 1; omega) | simp) (Sub.cons rfl (by first | rfl | (congr 1; omega) | simp) (Sub.cons rfl (by first | rfl | (congr 1; omega) | simp) (Sub.cons rfl (by first | rfl | (congr 1; omega) | simp) (Sub.cons rfl (by first | rfl | (congr 1; omega) | simp) (Sub.cons rfl (by first | rfl | (congr 1; omega) | simp) (Sub.cons rfl (by first | rfl | (congr 1; omega) | simp) (Sub.cons rfl (by first | rfl | (congr 1; omega) | simp) (Sub.cons rfl (by first | rfl | (congr 1; omega) | simp) (Sub.nil _)))))))))), rfl⟩
              · exact (fun _ h => h)
            · skip
              refine pk_exit ?_
              refine thru ?_
              refine thru ?_
              refine pk_here ?_
              refine thru_on ?_
              refine pk_seq ?_
              refine pk_region ?_
              refine pk_val rfl rfl rfl (val_move rfl rfl) ?_
              refine pk_val rfl rfl rfl (val_move rfl rfl) ?_
              refine pk_eff (eff_callx rfl ⟨_, Try.func10, by kernel_rfl, rfl⟩ rfl (fun E w s => fix_Mend_c s (verIn_spare 4 5 rfl rfl hvl (by omega) (by rw [hva]; exact hlk)) (verIn_pre 3 7 rfl rfl (by omega) (by rw [hgs]; exact hgk)))) rfl rfl rfl (fun q287 hq287 => ?_)
              rw [hva, hgs] at hq287
              rw [hva, hgs, hme]
              rw [← hmx] at hq287
              have hlm287 : q287.2.2.length = mx.length := by rw [← hq287, avs_len]
              refine pk_val rfl rfl rfl (val_move rfl rfl) ?_
              refine pk_val rfl rfl rfl (val_extract rfl rfl rfl) ?_
              refine pk_val rfl rfl rfl (val_extract rfl rfl rfl) ?_
              refine pk_val rfl rfl rfl (val_assign rfl rfl) ?_
              refine pk_val rfl rfl rfl (val_assign rfl rfl) ?_
              refine pk_nil ?_
              refine thru_on ?_
              refine pk_seq ?_
              refine pk_region ?_
              refine pk_val rfl rfl rfl (val_move rfl rfl) ?_
              refine pk_val rfl rfl rfl (val_eql rfl rfl rfl) ?_
              refine pk_val rfl rfl rfl (val_move rfl rfl) ?_
              refine pk_guard_yes rfl rfl rfl ?_
              refine pk_val rfl rfl rfl (val_move rfl rfl) ?_
              refine pk_guard_yes rfl rfl rfl ?_
              refine pk_val rfl rfl rfl (val_move rfl rfl) ?_
              refine pk_guard_yes rfl rfl rfl ?_
              refine pk_eff (eff_call1 rfl ⟨_, Try.func11, by kernel_rfl, rfl⟩ rfl (fun E w s => law17_same_c s (verIn_own 0 1 rfl rfl (by omega) (by rw [hq287]; exact hmk)) (verIn_own 3 4 rfl rfl (by omega) (by rw [hq207]; exact hmk)))) rfl rfl rfl (fun _ _ => ?_)
              refine Pk.slot 295 (v := .bool true) rfl (congrArg Value.bool (decide_eq_true (hq287.trans hq207.symm))) ?_
              refine pk_val rfl rfl rfl (val_pick rfl rfl rfl rfl) ?_
              refine pk_val rfl rfl rfl (val_move rfl rfl) ?_
              refine pk_guard_yes rfl rfl rfl ?_
              refine pk_val rfl rfl rfl (val_move rfl rfl) ?_
              refine pk_guard_yes rfl rfl rfl ?_
              refine pk_val rfl rfl rfl (val_move rfl rfl) ?_
              refine pk_guard_yes rfl rfl rfl ?_
              refine pk_eff (eff_call1 rfl ⟨_, Try.func11, by kernel_rfl, rfl⟩ rfl (fun E w s => law17_same_c s (verIn_spare 6 7 rfl rfl hvl (by omega) (by rw [hva]; exact hlk)) (verIn_own 10 11 rfl rfl (by omega) (by rw [hq44]; exact hlk)))) rfl rfl rfl (fun _ _ => ?_)
              refine Pk.slot 300 (v := .bool true) rfl (congrArg Value.bool (decide_eq_true (hva.trans hq44.symm))) ?_
              refine pk_val rfl rfl rfl (val_pick rfl rfl rfl rfl) ?_
              refine pk_val rfl rfl rfl (val_move rfl rfl) ?_
              refine pk_guard_yes rfl rfl rfl ?_
              refine pk_val rfl rfl rfl (val_move rfl rfl) ?_
              refine pk_guard_yes rfl rfl rfl ?_
              refine pk_val rfl rfl rfl (val_len_slice rfl Try.underlying23 rfl) ?_
              refine pk_guard_yes rfl rfl rfl ?_
              refine pk_val rfl rfl rfl (val_move rfl rfl) ?_
              refine pk_guard_yes rfl rfl rfl ?_
              refine pk_val rfl rfl rfl (val_len_slice rfl Try.underlying23 rfl) ?_
              refine pk_guard_yes rfl rfl rfl ?_
              refine pk_val rfl rfl rfl (val_add rfl rfl rfl (by omega)) ?_
              refine pk_guard_yes rfl rfl rfl ?_
              refine pk_val rfl rfl rfl (val_eql rfl rfl rfl) ?_
              refine Pk.slot 308 (v := .bool true) rfl (congrArg Value.bool (decide_eq_true (by omega))) ?_
              refine pk_val rfl rfl rfl (val_pick rfl rfl rfl rfl) ?_
              refine pk_val rfl rfl rfl (val_assign rfl rfl) ?_
              refine pk_nil ?_
              refine thru_on ?_
              refine pk_ret ?_
              refine ret1 rfl rfl fun w s => ⟨rfl, s.to (fun _ h => Sats.keep [false, false, false, false, false, false, false, false, false, false, false, false] h)⟩
end Go.Proofs.Ytdpckendkklfdaa
