/- The walks of rampartlaw17, fourth part: mark, marked. -/
import Derived.Test.YtdpckendkklfdaaL17C
import Derived.Test.YtdpckendkklfdaaEngJ
set_option linter.unusedVariables false
set_option linter.unusedSimpArgs false
set_option maxRecDepth 100000
namespace Go.Proofs.Ytdpckendkklfdaa
open Go.RowKit Go.Proofs.Eng
def markB (i : Nat) : ByteArray := strOfNums [IntKind.u8.wrap (i : Int), 7, 7]
def mkL (i : Nat) : List Value := [.string (markB i)]
def gA (ls : List Row) (i : Nat) (j : Nat) : Ch := if j < i then full 9 1 (ls.getD j dRow) (mkL j) else rowAny 9 1 (ls.getD j dRow)
def gB (ls : List Row) (done : List (Option Addr × Nat)) (j : Nat) : Ch := match done[j]? with
  | none => full 9 1 (ls.getD j dRow) (mkL j)
  | some q => lr 9 1 (ls.getD j dRow).A (ls.getD j dRow).n q.1 ((ls.getD j dRow).n + 30) q.2 (mkL j)
def longV (ls : List Row) (done : List (Option Addr × Nat)) (k : Nat) : List Value := (List.range k).map fun j => .slice (done.getD j (none, 0)).1 ((ls.getD j dRow).n + 30) (done.getD j (none, 0)).2
theorem longV_snoc (ls : List Row) (done : List (Option Addr × Nat)) (q : Option Addr × Nat) : longV ls (done ++ [q]) (done.length + 1) = longV ls done done.length ++ [.slice q.1 ((ls.getD done.length dRow).n + 30) q.2] := by
  simp only [longV, List.range_succ, List.map_append]
  congr 1
  · refine List.map_congr_left fun j hj => ?_
    have hj' : j < done.length := by simpa using hj
    simp [hj', List.getElem?_append_left hj']
  · simp
theorem longV_get {ls : List Row} {done : List (Option Addr × Nat)} {j k : Nat} (h : j < k) : (longV ls done k)[j]? = some (.slice (done.getD j (none, 0)).1 ((ls.getD j dRow).n + 30) (done.getD j (none, 0)).2) := by simp [longV, h]
theorem gA_end (ls : List Row) : Eng.cat ((List.range ls.length).map (gA ls ls.length)) = Eng.cat ((List.range ls.length).map (gB ls [])) := num_congr fun j hj => by simp [gA, gB, hj]
theorem gA_next {ls : List Row} {i : Nat} : ∀ j, j < ls.length → j ≠ i → gA ls i j = gA ls (i + 1) j := fun j _ h => by
  have : j < i ↔ j < i + 1 := by omega
  simp only [gA, this]
theorem gB_next {ls : List Row} {done : List (Option Addr × Nat)} (q : Option Addr × Nat) : ∀ j, j < ls.length → j ≠ done.length → gB ls done j = gB ls (done ++ [q]) j := fun j _ h => by
  simp only [gB]
  by_cases hj : j < done.length
  · rw [List.getElem?_append_left hj]
  · rw [List.getElem?_eq_none (by omega), List.getElem?_append_right (by omega), List.getElem?_eq_none (by simp; omega)]
theorem gB_done {ls : List Row} {done : List (Option Addr × Nat)} {j : Nat} (h : j < done.length) : gB ls done j = lr 9 1 (ls.getD j dRow).A (ls.getD j dRow).n (done.getD j (none, 0)).1 ((ls.getD j dRow).n + 30) (done.getD j (none, 0)).2 (mkL j) := by
  simp [gB, h]
theorem gB_last (ls : List Row) (done : List (Option Addr × Nat)) (q : Option Addr × Nat) : gB ls (done ++ [q]) done.length = lr 9 1 (ls.getD done.length dRow).A (ls.getD done.length dRow).n q.1 ((ls.getD done.length dRow).n + 30) q.2 (mkL done.length) := by simp [gB]
theorem gB_new (ls : List Row) (done : List (Option Addr × Nat)) : gB ls done done.length = full 9 1 (ls.getD done.length dRow) (mkL done.length) := by simp [gB]
theorem gA_new (ls : List Row) (i : Nat) : gA ls i i = rowAny 9 1 (ls.getD i dRow) := by simp [gA]
theorem gA_old (ls : List Row) (i : Nat) : gA ls (i + 1) i = full 9 1 (ls.getD i dRow) (mkL i) := by simp [gA]
theorem law17_mark_c {E w : World} {L : List Ch} {i : Nat} (s : Sat E w L) :
    Calls Try.prog 35 #[.int .i64 (i : Nat)] w (Gives E (.string (markB i)) L) := by
  refine enter (vs := [_]) Try.func35 rfl Try.ntmps35 rfl s ?_
  refine pk_seq ?_
  refine pk_region ?_
  refine pk_val rfl rfl rfl (val_assign rfl rfl) ?_
  refine pk_nil ?_
  refine thru_on ?_
  refine pk_seq ?_
  refine pk_region ?_
  refine pk_val rfl rfl rfl (val_move rfl rfl) ?_
  refine pk_val rfl rfl rfl (val_conv_int rfl Try.underlying3 Try.underlying5 rfl) ?_
  refine pk_eff (eff_buildSlice (len := 3) (sz := 1) (z := #[.int .u8 0]) rfl Try.underlying77 (by kernel_rfl) rfl rfl rfl (by decide) (by decide) rfl rfl) rfl rfl rfl (fun b5 _ => ?_)
  refine pk_val rfl rfl rfl (val_bytes_string (xs := [IntKind.u8.wrap (i : Int), 7, 7]) rfl Try.underlying77 Try.underlying5 Try.underlying9 rfl (Ent.own 0 rfl) rfl) ?_
  refine pk_val rfl rfl rfl (val_assign rfl rfl) ?_
  refine pk_nil ?_
  refine thru_on ?_
  refine pk_ret ?_
  refine ret1 rfl rfl fun w s => ⟨rfl, s.to fun _ h => h.tail⟩
theorem law17_marked_c {E w : World} {L : List Ch} {Q : Option Addr} {cap : Nat} {ls : List Row} (s : Sat E w (Eng.cat (ls.map (rowAny 9 1)) :: L)) (hQ : Ent L (RdL Q (ls.map rowV))) (hl : ls.length ≤ 1048576) (hn : ∀ r ∈ ls, r.n ≤ 1099511627776) :
    Calls Try.prog 12 #[.slice Q ls.length cap] w (Gives E (.bool true) L) := by
  refine enter (vs := [_]) Try.func12 rfl Try.ntmps12 rfl s ?_
  refine pk_seq ?_
  refine pk_region ?_
  refine pk_val rfl rfl rfl (val_assign rfl rfl) ?_
  refine pk_nil ?_
  refine thru_on ?_
  refine pk_seq ?_
  refine pk_region ?_
  refine pk_val rfl rfl rfl (val_assign rfl rfl) ?_
  refine pk_nil ?_
  refine thru_on ?_
  refine pk_seq ?_
  refine pk_seq ?_
  refine pk_region ?_
  refine pk_val rfl rfl rfl (val_assign rfl rfl) ?_
  refine pk_nil ?_
  refine thru_on ?_
  refine pk_block ?_
  refine pk_loop (α := Nat) (0) (fun i => [(0, .slice Q ls.length cap), (3, .slice none 0 0), (4, .int .i64 (i : Nat))]) (fun i => (cat ((List.range ls.length).map (gA ls i))) :: L) (fun i => i ≤ ls.length) (fun i => ls.length - i) ?_ ?_ ?_ ?_
  · (try dsimp only); exact Nat.zero_le _
  · exact ⟨(Sub.cons rfl (by first | rfl | (congr 1; omega) | simp) (Sub.cons rfl (by first | rfl | (congr 1; omega) | simp) (Sub.cons rfl (by first | rfl | (congr 1; omega) | simp) (Sub.nil _)))), rfl⟩
  · exact (fun _ h => by rw [num_list ls dRow] at h; exact h)
  rintro i hi0
  refine pk_seq ?_
  refine pk_seq ?_
  refine pk_region ?_
  refine pk_val rfl rfl rfl (val_move rfl rfl) ?_
  refine pk_val rfl rfl rfl (val_move rfl rfl) ?_
  refine pk_val rfl rfl rfl (val_len_slice rfl Try.underlying41 rfl) ?_
  refine pk_val rfl rfl rfl (val_lss rfl rfl rfl) ?_
  refine pk_nil ?_
  refine thru_on ?_
  refine pk_if rfl (fun h1 => ?_) (fun h1 => ?_)
  · skip
    refine pk_skip ?_
    refine thru_on ?_
    have hi : i < ls.length := by omega
    have hni := hn _ (getD_mem dRow hi)
    refine Pk.tells (hQ.cons.some_of (by rw [List.length_map]; omega)) fun hA => ?_
    refine Pk.heap (fun _ h => Sats.num_pull hi (gA_next (i := i)) h) ?_
    rw [gA_new]
    refine Pk.rowAny fun xs hxs => ?_
    rw [Nat.mul_one] at hxs
    refine pk_seq ?_
    refine pk_block ?_
    refine pk_seq ?_
    refine pk_region ?_
    refine pk_val rfl rfl rfl (val_assign rfl rfl) ?_
    refine pk_nil ?_
    refine thru_on ?_
    refine pk_block ?_
    refine pk_loop (α := Nat) (0) (fun k => [(0, .slice Q ls.length cap), (3, .slice none 0 0), (4, .int .i64 (i : Nat)), (5, .int .i64 (k : Nat))]) (fun k => (own (ls.getD i dRow).A (ls.getD i dRow).n (ls.getD i dRow).c 9 1 (reps k (mkL i) ++ xs.drop (k * 1))) :: (cat (((List.range ls.length).eraseIdx i).map (gA ls (i + 1)))) :: L) (fun k => k ≤ (ls.getD i dRow).n) (fun k => (ls.getD i dRow).n - k) ?_ ?_ ?_ ?_
    · (try dsimp only); exact Nat.zero_le _
    · exact ⟨(Sub.cons rfl (by first | rfl | (congr 1; omega) | simp) (Sub.cons rfl (by first | rfl | (congr 1; omega) | simp) (Sub.cons rfl (by first | rfl | (congr 1; omega) | simp) (Sub.cons rfl (by first | rfl | (congr 1; omega) | simp) (Sub.nil _))))), rfl⟩
    · exact (fun _ h => h)
    rintro k hk0
    refine pk_seq ?_
    refine pk_seq ?_
    refine pk_region ?_
    refine pk_val rfl rfl rfl (val_move rfl rfl) ?_
    refine pk_val rfl rfl rfl (val_move rfl rfl) ?_
    refine pk_val rfl rfl rfl (val_move rfl rfl) ?_
    refine pk_val rfl rfl rfl (val_indexAddr rfl Try.underlying41 1 (by kernel_rfl) rfl rfl i rfl hi (Ent.pure hA)) ?_
    refine pk_val rfl rfl rfl (val_load (v := rowV (ls.getD i dRow)) rfl Try.underlying34 rfl rfl (hQ.cons.cons.rd (get_map dRow hi))) ?_
    refine pk_val rfl rfl rfl (val_len_slice rfl Try.underlying34 rfl) ?_
    refine pk_val rfl rfl rfl (val_lss rfl rfl rfl) ?_
    refine pk_nil ?_
    refine thru_on ?_
    refine pk_if rfl (fun h2 => ?_) (fun h2 => ?_)
    · skip
      refine pk_skip ?_
      refine thru_on ?_
      have hk : k < (ls.getD i dRow).n := by omega
      have hxl : (reps k (mkL i) ++ xs.drop (k * 1)).length = (ls.getD i dRow).n := by rw [List.length_append, reps_len, List.length_drop, show (mkL i).length = 1 from rfl]; omega
      refine Pk.tells ((Ent.own 0 rfl).some_of (by rw [hxl]; omega)) fun hR => ?_
      refine pk_seq ?_
      refine pk_block ?_
      refine pk_drawk (.val 0 (.val 1 (.val 2 (.val 3 (.val 4 (.val 5 (.eff 6 (.val 7 (.eff 8 .nil))))))))) 8 [] rfl (by kernel_rfl) (fun _ _ _ _ _ h => h) ?_
      refine ord_val rfl rfl rfl rfl (fun _ h => h) (val_move rfl rfl) ?_
      refine ord_val rfl rfl rfl rfl (fun _ h => h) (val_move rfl rfl) ?_
      refine ord_val rfl rfl rfl rfl (fun _ h => h) (val_indexAddr rfl Try.underlying41 1 (by kernel_rfl) rfl rfl i rfl hi (Ent.pure hA)) ?_
      refine ord_val rfl rfl rfl rfl (fun _ h => h) (val_load (v := rowV (ls.getD i dRow)) rfl Try.underlying34 rfl rfl (hQ.cons.cons.rd (get_map dRow hi))) ?_
      refine ord_val rfl rfl rfl rfl (fun _ h => h) (val_move rfl rfl) ?_
      refine ord_val rfl rfl rfl rfl (fun _ h => h) (val_move rfl rfl) ?_
      refine ord_eff (eff_call1 rfl ⟨_, Try.func35, by kernel_rfl, rfl⟩ rfl (fun E w s => law17_mark_c s)) rfl rfl rfl rfl (.inr fun _ _ => (fun _ h => h)) (fun _ _ => ?_)
      refine ord_val rfl rfl rfl rfl (fun _ h => h) (val_indexAddr rfl Try.underlying34 1 (by kernel_rfl) rfl rfl k rfl hk (Ent.pure hR)) ?_
      refine ord_eff0 (eff_store 0 rfl rfl rfl rfl rfl (by kernel_rfl) rfl (by rw [hxl]; simp only [List.length_singleton]; omega) (by simp)) rfl rfl rfl (.inl rfl) (fun _ _ => ?_)
      refine ord_nil ?_
      refine in_on ?_
      refine thru_on ?_
      refine pk_region ?_
      refine pk_val rfl rfl rfl (val_move rfl rfl) ?_
      refine pk_val rfl rfl rfl (val_add rfl rfl rfl (by omega)) ?_
      refine pk_val rfl rfl rfl (val_assign rfl rfl) ?_
      refine pk_nil ?_
      refine thru_on ?_
      refine pk_next (x := k) (k + 1) ?_ ?_ ?_ ?_
      · (try dsimp only) <;> exact hk
      · (try dsimp only); exact (by omega)
      · exact ⟨(Sub.cons rfl (by first | rfl | (congr 1; omega) | simp) (Sub.cons rfl (by first | rfl | (congr 1; omega) | simp) (Sub.cons rfl (by first | rfl | (congr 1; omega) | simp) (Sub.cons rfl (by first | rfl | (congr 1; omega) | simp) (Sub.nil _))))), rfl⟩
      · exact (fun _ h => by rw [← splice_reps (s := 1) rfl (by omega)]; exact h)
    · skip
      refine pk_exit ?_
      refine thru ?_
      refine thru ?_
      refine pk_here ?_
      refine in_on ?_
      refine thru_on ?_
      refine pk_region ?_
      refine pk_val rfl rfl rfl (val_move rfl rfl) ?_
      refine pk_val rfl rfl rfl (val_add rfl rfl rfl (by omega)) ?_
      refine pk_val rfl rfl rfl (val_assign rfl rfl) ?_
      refine pk_nil ?_
      refine thru_on ?_
      refine pk_next (x := i) (i + 1) ?_ ?_ ?_ ?_
      · (try dsimp only) <;> exact hi
      · (try dsimp only); exact (by omega)
      · exact ⟨(Sub.cons rfl (by first | rfl | (congr 1; omega) | simp) (Sub.cons rfl (by first | rfl | (congr 1; omega) | simp) (Sub.cons rfl (by first | rfl | (congr 1; omega) | simp) (Sub.nil _)))), rfl⟩
      · exact (fun _ h => by
        have hkn : k = (ls.getD i dRow).n := by omega
        rw [hkn, List.drop_eq_nil_of_le (by omega), List.append_nil] at h
        exact Sats.num_push (g' := gA ls (i + 1)) hi (by rw [gA_old]; exact h))
  · skip
    have hii : i = ls.length := by omega
    subst hii
    refine Pk.nilrow 34 1 ?_
    refine pk_exit ?_
    refine thru ?_
    refine thru ?_
    refine pk_here ?_
    refine thru_on ?_
    refine pk_seq ?_
    refine pk_seq ?_
    refine pk_region ?_
    refine pk_val rfl rfl rfl (val_assign rfl rfl) ?_
    refine pk_nil ?_
    refine thru_on ?_
    refine pk_block ?_
    refine pk_loop (α := List (Option Addr × Nat) × Option Addr × Nat) (([], none, 0)) (fun y => [(0, .slice Q ls.length cap), (3, .slice y.2.1 y.1.length y.2.2), (6, .int .i64 (y.1.length : Nat))]) (fun y => (own y.2.1 y.1.length y.2.2 34 1 (longV ls y.1 y.1.length)) :: (cat ((List.range ls.length).map (gB ls y.1))) :: L) (fun y => y.1.length ≤ ls.length) (fun y => ls.length - y.1.length) ?_ ?_ ?_ ?_
    · (try dsimp only); exact Nat.zero_le _
    · exact ⟨(Sub.cons rfl (by first | rfl | (congr 1; omega) | simp) (Sub.cons rfl (by first | rfl | (congr 1; omega) | simp) (Sub.cons rfl (by first | rfl | (congr 1; omega) | simp) (Sub.nil _)))), rfl⟩
    · exact (fun _ h => by rw [gA_end] at h; exact h)
    rintro ⟨done, q, d⟩ hd0
    dsimp only at hd0 ⊢
    obtain ⟨i, hdi⟩ : ∃ i, i = done.length := ⟨_, rfl⟩
    refine pk_seq ?_
    refine pk_seq ?_
    refine pk_region ?_
    refine pk_val rfl rfl rfl (val_move rfl rfl) ?_
    refine pk_val rfl rfl rfl (val_move rfl rfl) ?_
    refine pk_val rfl rfl rfl (val_len_slice rfl Try.underlying41 rfl) ?_
    refine pk_val rfl rfl rfl (val_lss rfl rfl rfl) ?_
    refine pk_nil ?_
    refine thru_on ?_
    refine pk_if rfl (fun h3 => ?_) (fun h3 => ?_)
    · skip
      refine pk_skip ?_
      refine thru_on ?_
      have hi : i < ls.length := by omega
      have hni := hn _ (getD_mem dRow hi)
      refine Pk.tells (hQ.cons.cons.some_of (by rw [List.length_map]; omega)) fun hA => ?_
      refine pk_seq ?_
      refine pk_block ?_
      refine pk_seq ?_
      refine pk_region ?_
      refine pk_val rfl rfl rfl (val_move rfl rfl) ?_
      refine pk_val rfl rfl rfl (val_move rfl rfl) ?_
      refine pk_val rfl rfl rfl (val_indexAddr rfl Try.underlying41 1 (by kernel_rfl) rfl rfl i (by rw [hdi]) hi (Ent.pure hA)) ?_
      refine pk_val rfl rfl rfl (val_load (v := rowV (ls.getD i dRow)) rfl Try.underlying34 rfl rfl (hQ.cons.cons.rd (get_map dRow hi))) ?_
      refine pk_val rfl rfl rfl (val_assign rfl rfl) ?_
      refine pk_nil ?_
      refine thru_on ?_
      refine pk_seq ?_
      refine pk_seq ?_
      refine pk_region ?_
      refine pk_val rfl rfl rfl (val_assign rfl rfl) ?_
      refine pk_nil ?_
      refine thru_on ?_
      refine pk_block ?_
      refine pk_loop (α := Nat × Option Addr × Nat) ((0, (ls.getD i dRow).A, (ls.getD i dRow).c)) (fun y => [(0, .slice Q ls.length cap), (3, .slice q done.length d), (6, .int .i64 (i : Nat)), (7, .slice y.2.1 ((ls.getD i dRow).n + y.1) y.2.2), (8, .int .i64 (y.1 : Nat))]) (fun y => (lr 9 1 (ls.getD i dRow).A (ls.getD i dRow).n y.2.1 ((ls.getD i dRow).n + y.1) y.2.2 (mkL i)) :: (cat (((List.range ls.length).eraseIdx i).map (gB ls done))) :: (own q done.length d 34 1 (longV ls done done.length)) :: L) (fun y => y.1 ≤ 30) (fun y => 30 - y.1) ?_ ?_ ?_ ?_
      · (try dsimp only); exact Nat.zero_le _
      · exact ⟨(Sub.cons rfl (by first | rfl | (congr 1; omega) | simp) (Sub.cons rfl (by first | rfl | (congr 1; omega) | simp) (Sub.cons rfl (by rw [hdi]) (Sub.cons rfl (by first | rfl | (congr 1; omega) | simp) (Sub.cons rfl (by first | rfl | (congr 1; omega) | simp) (Sub.nil _)))))), rfl⟩
      · exact (fun _ h => by
        have h1 := Sats.num_pull (g' := gB ls done) hi (fun _ _ _ => rfl) (Sats.pull 1 rfl h)
        have e1 := gB_new ls done
        rw [← hdi] at e1
        rw [e1] at h1
        exact Sats.head (fun _ o => lr_start o) h1)
      rintro ⟨k, B, e⟩ hk0
      dsimp only at hk0 ⊢
      refine pk_seq ?_
      refine pk_seq ?_
      refine pk_region ?_
      refine pk_val rfl rfl rfl (val_move rfl rfl) ?_
      refine pk_val rfl rfl rfl (val_lss rfl rfl rfl) ?_
      refine pk_nil ?_
      refine thru_on ?_
      refine pk_if rfl (fun h4 => ?_) (fun h4 => ?_)
      · skip
        refine pk_skip ?_
        refine thru_on ?_
        refine pk_seq ?_
        refine pk_block ?_
        refine pk_region ?_
        refine pk_val rfl rfl rfl (val_move rfl rfl) ?_
        refine pk_val rfl rfl rfl (val_move rfl rfl) ?_
        refine pk_eff (eff_call1 rfl ⟨_, Try.func35, by kernel_rfl, rfl⟩ rfl (fun E w s => law17_mark_c s)) rfl rfl rfl (fun _ _ => ?_)
        refine pk_eff (eff_buildSlice (len := 1) (sz := 1) (z := #[.string ⟨#[]⟩]) rfl Try.underlying34 (by kernel_rfl) rfl rfl rfl (by decide) (by decide) rfl rfl) rfl rfl rfl (fun b51 _ => ?_)
        refine Pk.pull 1 rfl ?_
        refine Pk.lr (fun hBA => ?_) ?_
        · skip
          refine pk_eff (eff_appendK1 (sz := 1) (bytes := 16) (z := .string ⟨#[]⟩) 0 rfl Try.underlying34 (by kernel_rfl) rfl (by decide) (by decide) rfl rfl rfl (Ent.own 1 rfl) (by rw [reps_len]; rfl) rfl rfl (by omega)) rfl rfl rfl (fun q52 _ => ?_)
          refine pk_val rfl rfl rfl (val_assign rfl rfl) ?_
          refine pk_nil ?_
          refine in_on ?_
          refine thru_on ?_
          refine pk_region ?_
          refine pk_val rfl rfl rfl (val_move rfl rfl) ?_
          refine pk_val rfl rfl rfl (val_add rfl rfl rfl (by omega)) ?_
          refine pk_val rfl rfl rfl (val_assign rfl rfl) ?_
          refine pk_nil ?_
          refine thru_on ?_
          refine pk_next (x := ⟨k, B, e⟩) ((k + 1, q52.1, q52.2)) ?_ ?_ ?_ ?_
          · (try dsimp only) <;> exact (by omega)
          · (try dsimp only); exact (by omega)
          · exact ⟨(Sub.cons rfl (by first | rfl | (congr 1; omega) | simp) (Sub.cons rfl (by first | rfl | (congr 1; omega) | simp) (Sub.cons rfl (by first | rfl | (congr 1; omega) | simp) (Sub.cons rfl (by first | rfl | (congr 1; omega) | simp) (Sub.cons rfl (by first | rfl | (congr 1; omega) | simp) (Sub.nil _)))))), rfl⟩
          · exact (fun _ h => lr_app1 (Nat.le_add_right _ _) hBA (Sats.keep [true, true, false, true, true] h))
        · skip
          refine pk_eff (eff_append1 (sz := 1) (bytes := 16) (z := .string ⟨#[]⟩) 0 rfl Try.underlying34 (by kernel_rfl) rfl (by decide) (by decide) rfl rfl rfl (Ent.own 2 rfl) (by rw [reps_len]; rfl) rfl rfl (by omega)) rfl rfl rfl (fun q52 _ => ?_)
          refine pk_val rfl rfl rfl (val_assign rfl rfl) ?_
          refine pk_nil ?_
          refine in_on ?_
          refine thru_on ?_
          refine pk_region ?_
          refine pk_val rfl rfl rfl (val_move rfl rfl) ?_
          refine pk_val rfl rfl rfl (val_add rfl rfl rfl (by omega)) ?_
          refine pk_val rfl rfl rfl (val_assign rfl rfl) ?_
          refine pk_nil ?_
          refine thru_on ?_
          refine pk_next (x := ⟨k, B, e⟩) ((k + 1, q52.1, q52.2)) ?_ ?_ ?_ ?_
          · (try dsimp only) <;> exact (by omega)
          · (try dsimp only); exact (by omega)
          · exact ⟨(Sub.cons rfl (by first | rfl | (congr 1; omega) | simp) (Sub.cons rfl (by first | rfl | (congr 1; omega) | simp) (Sub.cons rfl (by first | rfl | (congr 1; omega) | simp) (Sub.cons rfl (by first | rfl | (congr 1; omega) | simp) (Sub.cons rfl (by first | rfl | (congr 1; omega) | simp) (Sub.nil _)))))), rfl⟩
          · exact (fun _ h => lr_app2 (Sats.keep [true, true, false, true, true] h))
      · skip
        obtain rfl : k = 30 := by omega
        refine pk_exit ?_
        refine thru ?_
        refine thru ?_
        refine pk_here ?_
        refine thru_on ?_
        refine pk_region ?_
        refine pk_val rfl rfl rfl (val_move rfl rfl) ?_
        refine pk_val rfl rfl rfl (val_move rfl rfl) ?_
        refine pk_eff (eff_buildSlice (len := 1) (sz := 1) (z := #[.slice none 0 0]) rfl Try.underlying41 (by kernel_rfl) rfl rfl rfl (by decide) (by decide) rfl rfl) rfl rfl rfl (fun b55 _ => ?_)
        refine pk_eff (eff_append1 (sz := 1) (bytes := 24) (z := .slice none 0 0) 3 rfl Try.underlying41 (by kernel_rfl) rfl (by decide) (by decide) rfl rfl rfl (Ent.own 0 rfl) (by simp [longV]) rfl rfl (by omega)) rfl rfl rfl (fun q56 _ => ?_)
        refine pk_val rfl rfl rfl (val_assign rfl rfl) ?_
        refine pk_nil ?_
        refine in_on ?_
        refine thru_on ?_
        refine pk_region ?_
        refine pk_val rfl rfl rfl (val_move rfl rfl) ?_
        refine pk_val rfl rfl rfl (val_add rfl rfl rfl (by omega)) ?_
        refine pk_val rfl rfl rfl (val_assign rfl rfl) ?_
        refine pk_nil ?_
        refine thru_on ?_
        refine pk_next (x := ⟨done, q, d⟩) ((done ++ [(B, e)], q56.1, q56.2)) ?_ ?_ ?_ ?_
        · (try dsimp only) <;> exact (by simp; omega)
        · (try dsimp only); exact ((by simp only [List.length_append, List.length_singleton]; omega))
        · exact ⟨(Sub.cons rfl (by first | rfl | (congr 1; omega) | simp) (Sub.cons rfl (by simp) (Sub.cons rfl (by rw [hdi]; simp) (Sub.nil _)))), rfl⟩
        · exact (fun _ h => by
          have h1 := Sats.pull 2 rfl (Sats.keep [false, true, true, true] h)
          rw [range_erase_congr (g' := gB ls (done ++ [(B, e)])) (fun j hj hne => gB_next (B, e) j hj (by omega))] at h1
          have h2 := Sats.under (fun _ h => Sats.num_push (g' := gB ls (done ++ [(B, e)])) hi (by have e1 := gB_last ls done (B, e); rw [← hdi] at e1; rw [e1]; exact h)) h1
          (try dsimp only)
          rw [List.length_append, List.length_singleton, longV_snoc, ← hdi]
          rw [← hdi] at h2
          exact h2)
    · skip
      have hdl : done.length = ls.length := by omega
      rw [hdl]
      refine pk_exit ?_
      refine thru ?_
      refine thru ?_
      refine pk_here ?_
      refine thru_on ?_
      refine pk_seq ?_
      refine pk_seq ?_
      refine pk_region ?_
      refine pk_val rfl rfl rfl (val_assign rfl rfl) ?_
      refine pk_nil ?_
      refine thru_on ?_
      refine pk_block ?_
      refine pk_loop (α := Nat) (0) (fun i => [(0, .slice Q ls.length cap), (3, .slice q ls.length d), (9, .int .i64 (i : Nat))]) (fun i => (own q ls.length d 34 1 (longV ls done ls.length)) :: (cat ((List.range ls.length).map (gB ls done))) :: L) (fun i => i ≤ ls.length) (fun i => ls.length - i) ?_ ?_ ?_ ?_
      · (try dsimp only); exact Nat.zero_le _
      · exact ⟨(Sub.cons rfl (by first | rfl | (congr 1; omega) | simp) (Sub.cons rfl (by first | rfl | (congr 1; omega) | simp) (Sub.cons rfl (by first | rfl | (congr 1; omega) | simp) (Sub.nil _)))), rfl⟩
      · exact (fun _ h => h)
      rintro i hi0
      refine pk_seq ?_
      refine pk_seq ?_
      refine pk_region ?_
      refine pk_val rfl rfl rfl (val_move rfl rfl) ?_
      refine pk_val rfl rfl rfl (val_move rfl rfl) ?_
      refine pk_val rfl rfl rfl (val_len_slice rfl Try.underlying41 rfl) ?_
      refine pk_val rfl rfl rfl (val_lss rfl rfl rfl) ?_
      refine pk_nil ?_
      refine thru_on ?_
      refine pk_if rfl (fun h5 => ?_) (fun h5 => ?_)
      · skip
        refine pk_skip ?_
        refine thru_on ?_
        have hi : i < ls.length := by omega
        have hni := hn _ (getD_mem dRow hi)
        refine Pk.tells (hQ.cons.cons.some_of (by rw [List.length_map]; omega)) fun hA => ?_
        refine Pk.tells ((Ent.own 0 rfl).some_of (by simp [longV]; omega)) fun hG => ?_
        obtain ⟨n, hnn⟩ : ∃ n, n = (ls.getD i dRow).n := ⟨_, rfl⟩
        refine pk_seq ?_
        refine pk_block ?_
        refine pk_seq ?_
        refine pk_region ?_
        refine pk_val rfl rfl rfl (val_assign rfl rfl) ?_
        refine pk_nil ?_
        refine thru_on ?_
        refine pk_block ?_
        refine pk_loop (α := Nat) (0) (fun k => [(0, .slice Q ls.length cap), (3, .slice q ls.length d), (9, .int .i64 (i : Nat)), (10, .int .i64 (k : Nat))]) (fun k => (own q ls.length d 34 1 (longV ls done ls.length)) :: (cat ((List.range ls.length).map (gB ls done))) :: L) (fun k => k ≤ n + 30) (fun k => n + 30 - k) ?_ ?_ ?_ ?_
        · (try dsimp only); exact Nat.zero_le _
        · exact ⟨(Sub.cons rfl (by first | rfl | (congr 1; omega) | simp) (Sub.cons rfl (by first | rfl | (congr 1; omega) | simp) (Sub.cons rfl (by first | rfl | (congr 1; omega) | simp) (Sub.cons rfl (by first | rfl | (congr 1; omega) | simp) (Sub.nil _))))), rfl⟩
        · exact (fun _ h => h)
        rintro k hk0
        have hlong := Ent.num (L := own q ls.length d 34 1 (longV ls done ls.length) :: cat ((List.range ls.length).map (gB ls done)) :: L) 1 rfl hi (fun h o => lr_long (by rw [gB_done (by omega)] at o; exact o)) (fun _ _ le r => RdL.mono r le)
        have hshort := Ent.num (L := own q ls.length d 34 1 (longV ls done ls.length) :: cat ((List.range ls.length).map (gB ls done)) :: L) 1 rfl hi (fun h o => lr_short (Nat.le_add_right _ 30) (by rw [gB_done (by omega)] at o; exact o)) (fun _ _ le r => RdL.mono r le)
        refine pk_seq ?_
        refine pk_seq ?_
        refine pk_region ?_
        refine pk_val rfl rfl rfl (val_move rfl rfl) ?_
        refine pk_val rfl rfl rfl (val_move rfl rfl) ?_
        refine pk_val rfl rfl rfl (val_move rfl rfl) ?_
        refine pk_val rfl rfl rfl (val_indexAddr rfl Try.underlying41 1 (by kernel_rfl) rfl rfl i rfl hi (Ent.pure hG)) ?_
        refine pk_val rfl rfl rfl (val_load rfl Try.underlying34 rfl rfl ((Ent.own 0 rfl).rd (by rw [Nat.mul_one]; exact longV_get hi))) ?_
        refine pk_val rfl rfl rfl (val_len_slice rfl Try.underlying34 rfl) ?_
        refine pk_val rfl rfl rfl (val_lss rfl rfl rfl) ?_
        refine pk_nil ?_
        refine thru_on ?_
        refine pk_if rfl (fun h6 => ?_) (fun h6 => ?_)
        · skip
          refine pk_skip ?_
          refine thru_on ?_
          have hk : k < (ls.getD i dRow).n + 30 := by omega
          refine Pk.tells (hlong.some_of (by rw [reps_len]; simp [mkL])) fun hA2 => ?_
          refine pk_seq ?_
          refine pk_block ?_
          refine pk_seq ?_
          refine pk_drawk (.val 0 (.val 1 (.val 2 (.val 3 (.val 4 (.val 5 (.val 6 (.val 7 (.eff 8 (.val 9 (.val 10 (.val 11 (.val 12 (.val 13 (.val 14 (.val 15 (.val 16 (.val 17 (.val 18 (.val 19 (.val 20 (.val 21 (.val 22 (.val 23 (.val 24 (.val 25 (.val 26 (.eff 27 (.val 28 (.val 29 (.val 30 .nil))))))))))))))))))))))))))))))) 1031 [] rfl (by kernel_rfl) (fun _ _ _ _ _ h => h) ?_
          refine ord_val rfl rfl rfl rfl (fun _ h => h) (val_move rfl rfl) ?_
          refine ord_val rfl rfl rfl rfl (fun _ h => h) (val_move rfl rfl) ?_
          refine ord_val rfl rfl rfl rfl (fun _ h => h) (val_indexAddr rfl Try.underlying41 1 (by kernel_rfl) rfl rfl i rfl hi (Ent.pure hG)) ?_
          refine ord_val rfl rfl rfl rfl (fun _ h => h) (val_load rfl Try.underlying34 rfl rfl ((Ent.own 0 rfl).rd (by rw [Nat.mul_one]; exact longV_get hi))) ?_
          refine ord_val rfl rfl rfl rfl (fun _ h => h) (val_move rfl rfl) ?_
          refine ord_val rfl rfl rfl rfl (fun _ h => h) (val_indexAddr rfl Try.underlying34 1 (by kernel_rfl) rfl rfl k rfl hk (Ent.pure hA2)) ?_
          refine ord_val rfl rfl rfl rfl (fun _ h => h) (val_load rfl Try.underlying9 rfl rfl (hlong.rd (reps_get1 hk))) ?_
          refine ord_val rfl rfl rfl rfl (fun _ h => h) (val_move rfl rfl) ?_
          refine ord_eff (eff_call1 rfl ⟨_, Try.func35, by kernel_rfl, rfl⟩ rfl (fun E w s => law17_mark_c s)) rfl rfl rfl rfl (.inr fun _ _ => (fun _ h => h)) (fun _ _ => ?_)
          refine ord_val rfl rfl rfl rfl (fun _ h => h) (val_str_neq rfl rfl rfl) ?_
          refine Pk.slot 81 (v := .bool false) rfl (congrArg Value.bool (decide_eq_false (fun h => h rfl))) ?_
          refine ord_val rfl rfl rfl rfl (fun _ h => h) (val_move rfl rfl) ?_
          refine ord_val_yes rfl rfl rfl rfl rfl rfl (fun _ h => h) (val_move rfl rfl) ?_
          refine ord_val_yes rfl rfl rfl rfl rfl rfl (fun _ h => h) (val_move rfl rfl) ?_
          refine ord_val_yes rfl rfl rfl rfl rfl rfl (fun _ h => h) (val_move rfl rfl) ?_
          refine ord_val_yes rfl rfl rfl rfl rfl rfl (fun _ h => h) (val_indexAddr rfl Try.underlying41 1 (by kernel_rfl) rfl rfl i rfl hi (Ent.pure hA)) ?_
          refine ord_val_yes rfl rfl rfl rfl rfl rfl (fun _ h => h) (val_load (v := rowV (ls.getD i dRow)) rfl Try.underlying34 rfl rfl (hQ.cons.cons.rd (get_map dRow hi))) ?_
          refine ord_val_yes rfl rfl rfl rfl rfl rfl (fun _ h => h) (val_len_slice rfl Try.underlying34 rfl) ?_
          refine ord_val_yes rfl rfl rfl rfl rfl rfl (fun _ h => h) (val_lss rfl rfl rfl) ?_
          refine ord_val_yes rfl rfl rfl rfl rfl rfl (fun _ h => h) (val_move rfl rfl) ?_
          by_cases hkn : k < (ls.getD i dRow).n
          · skip
            refine Pk.slot 90 (v := .bool true) rfl (congrArg Value.bool (decide_eq_true (by omega))) ?_
            refine Pk.tells (hshort.some_of (by rw [reps_len, show (mkL i).length = 1 from rfl]; omega)) fun hA3 => ?_
            refine ord_val_yes rfl rfl rfl rfl rfl rfl (fun _ h => h) (val_move rfl rfl) ?_
            refine ord_val_yes rfl rfl rfl rfl rfl rfl (fun _ h => h) (val_move rfl rfl) ?_
            refine ord_val_yes rfl rfl rfl rfl rfl rfl (fun _ h => h) (val_indexAddr rfl Try.underlying41 1 (by kernel_rfl) rfl rfl i rfl hi (Ent.pure hA)) ?_
            refine ord_val_yes rfl rfl rfl rfl rfl rfl (fun _ h => h) (val_load (v := rowV (ls.getD i dRow)) rfl Try.underlying34 rfl rfl (hQ.cons.cons.rd (get_map dRow hi))) ?_
            refine ord_val_yes rfl rfl rfl rfl rfl rfl (fun _ h => h) (val_move rfl rfl) ?_
            refine ord_val_yes rfl rfl rfl rfl rfl rfl (fun _ h => h) (val_indexAddr rfl Try.underlying34 1 (by kernel_rfl) rfl rfl k rfl hkn (Ent.pure hA3)) ?_
            refine ord_val_yes rfl rfl rfl rfl rfl rfl (fun _ h => h) (val_load rfl Try.underlying9 rfl rfl (hshort.rd (reps_get1 hkn))) ?_
            refine ord_val_yes rfl rfl rfl rfl rfl rfl (fun _ h => h) (val_move rfl rfl) ?_
            refine ord_eff_yes (eff_call1 rfl ⟨_, Try.func35, by kernel_rfl, rfl⟩ rfl (fun E w s => law17_mark_c s)) rfl rfl rfl rfl rfl rfl (.inr fun _ _ => (fun _ h => h)) (fun _ _ => ?_)
            refine ord_val_yes rfl rfl rfl rfl rfl rfl (fun _ h => h) (val_str_neq rfl rfl rfl) ?_
            first | refine Pk.slot 100 (v := .bool false) rfl (congrArg Value.bool (decide_eq_false (fun h => h rfl))) ?_ | skip
            refine ord_val_yes rfl rfl rfl rfl rfl rfl (fun _ h => h) (val_pick rfl rfl rfl rfl) ?_
            refine ord_val rfl rfl rfl rfl (fun _ h => h) (val_pick rfl rfl rfl rfl) ?_
            refine ord_nil ?_
            refine thru_on ?_
            refine pk_cond_f rfl ?_
            refine pk_skip ?_
            refine in_on ?_
            refine thru_on ?_
            refine pk_region ?_
            refine pk_val rfl rfl rfl (val_move rfl rfl) ?_
            refine pk_val rfl rfl rfl (val_add rfl rfl rfl (by omega)) ?_
            refine pk_val rfl rfl rfl (val_assign rfl rfl) ?_
            refine pk_nil ?_
            refine thru_on ?_
            refine pk_next (x := k) (k + 1) ?_ ?_ ?_ ?_
            · (try dsimp only) <;> exact (by omega)
            · (try dsimp only); exact (by omega)
            · exact ⟨(Sub.cons rfl (by first | rfl | (congr 1; omega) | simp) (Sub.cons rfl (by first | rfl | (congr 1; omega) | simp) (Sub.cons rfl (by first | rfl | (congr 1; omega) | simp) (Sub.cons rfl (by first | rfl | (congr 1; omega) | simp) (Sub.nil _))))), rfl⟩
            · exact (fun _ h => h)
          · skip
            refine Pk.slot 90 (v := .bool false) rfl (congrArg Value.bool (decide_eq_false (by omega))) ?_
            refine ord_val_no rfl rfl rfl rfl rfl rfl rfl (fun _ h => h) ?_
            refine ord_val_no rfl rfl rfl rfl rfl rfl rfl (fun _ h => h) ?_
            refine ord_val_no rfl rfl rfl rfl rfl rfl rfl (fun _ h => h) ?_
            refine ord_val_no rfl rfl rfl rfl rfl rfl rfl (fun _ h => h) ?_
            refine ord_val_no rfl rfl rfl rfl rfl rfl rfl (fun _ h => h) ?_
            refine ord_val_no rfl rfl rfl rfl rfl rfl rfl (fun _ h => h) ?_
            refine ord_val_no rfl rfl rfl rfl rfl rfl rfl (fun _ h => h) ?_
            refine ord_val_no rfl rfl rfl rfl rfl rfl rfl (fun _ h => h) ?_
            refine ord_eff_no rfl rfl rfl rfl rfl rfl rfl (fun _ h => h) ?_
            refine ord_val_no rfl rfl rfl rfl rfl rfl rfl (fun _ h => h) ?_
            first | refine Pk.slot 100 (v := .bool false) rfl (congrArg Value.bool (decide_eq_false (fun h => h rfl))) ?_ | skip
            refine ord_val_yes rfl rfl rfl rfl rfl rfl (fun _ h => h) (val_pick rfl rfl rfl rfl) ?_
            refine ord_val rfl rfl rfl rfl (fun _ h => h) (val_pick rfl rfl rfl rfl) ?_
            refine ord_nil ?_
            refine thru_on ?_
            refine pk_cond_f rfl ?_
            refine pk_skip ?_
            refine in_on ?_
            refine thru_on ?_
            refine pk_region ?_
            refine pk_val rfl rfl rfl (val_move rfl rfl) ?_
            refine pk_val rfl rfl rfl (val_add rfl rfl rfl (by omega)) ?_
            refine pk_val rfl rfl rfl (val_assign rfl rfl) ?_
            refine pk_nil ?_
            refine thru_on ?_
            refine pk_next (x := k) (k + 1) ?_ ?_ ?_ ?_
            · (try dsimp only) <;> exact (by omega)
            · (try dsimp only); exact (by omega)
            · exact ⟨(Sub.cons rfl (by first | rfl | (congr 1; omega) | simp) (Sub.cons rfl (by first | rfl | (congr 1; omega) | simp) (Sub.cons rfl (by first | rfl | (congr 1; omega) | simp) (Sub.cons rfl (by first | rfl | (congr 1; omega) | simp) (Sub.nil _))))), rfl⟩
            · exact (fun _ h => h)
        · skip
          refine pk_exit ?_
          refine thru ?_
          refine thru ?_
          refine pk_here ?_
          refine in_on ?_
          refine thru_on ?_
          refine pk_region ?_
          refine pk_val rfl rfl rfl (val_move rfl rfl) ?_
          refine pk_val rfl rfl rfl (val_add rfl rfl rfl (by omega)) ?_
          refine pk_val rfl rfl rfl (val_assign rfl rfl) ?_
          refine pk_nil ?_
          refine thru_on ?_
          refine pk_next (x := i) (i + 1) ?_ ?_ ?_ ?_
          · (try dsimp only) <;> exact hi
          · (try dsimp only); exact (by omega)
          · exact ⟨(Sub.cons rfl (by first | rfl | (congr 1; omega) | simp) (Sub.cons rfl (by first | rfl | (congr 1; omega) | simp) (Sub.cons rfl (by first | rfl | (congr 1; omega) | simp) (Sub.nil _)))), rfl⟩
          · exact (fun _ h => h)
      · skip
        refine pk_exit ?_
        refine thru ?_
        refine thru ?_
        refine pk_here ?_
        refine thru_on ?_
        refine pk_seq ?_
        refine pk_region ?_
        refine pk_val rfl rfl rfl (val_assign rfl rfl) ?_
        refine pk_nil ?_
        refine thru_on ?_
        refine pk_ret ?_
        refine ret1 rfl rfl fun w s => ⟨rfl, s.to (fun _ h => Sats.keep [false, false] h)⟩
end Go.Proofs.Ytdpckendkklfdaa
