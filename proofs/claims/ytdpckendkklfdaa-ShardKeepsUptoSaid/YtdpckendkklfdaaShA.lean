/- The walks that package shard reaches, first part: slices.Insert. -/
import Derived.Test.YtdpckendkklfdaaEngM
import Derived.Test.YtdpckendkklfdaaEngJ
import Derived.Test.YtdpckendkklfdaaProg
set_option linter.unusedVariables false
set_option linter.unusedSimpArgs false
set_option maxRecDepth 100000
namespace Go.Proofs.Ytdpckendkklfdaa
open Go.RowKit Go.Proofs.Eng
theorem Insert_Part_c {E w : World} {L : List Ch} {q B : Option Addr} {n c cv i : Nat} {xs u : List Value} (s : Sat E w (own q n c 57 2 xs :: own B 1 cv 57 2 u :: L)) (hxl : xs.length = n * 2) (hul : u.length = 1 * 2) (hx1 : xs.all (·.oneCell') = true) (hu1 : u.all (·.oneCell') = true) (hi : i ≤ n) (hfit : (n + 1 + (n + 1) / 4 + 192) * 32 ≤ 281474976710656) :
    Calls Try.prog 41 #[.slice q n c, .int .i64 (i : Nat), .slice B 1 cv] w (GivesX E (fun p : Option Addr × Nat => .slice p.1 (n + 1) p.2) (fun p => own p.1 (n + 1) p.2 57 2 (xs.take (i * 2) ++ u ++ xs.drop (i * 2)) :: L) (fun _ => True)) := by
  refine enter (vs := [_, _, _]) Try.func41 rfl Try.ntmps41 rfl s ?_
  refine Pk.tells (Ent.cap 0 rfl) fun hnc => ?_
  have hfit' := hfit
  refine pk_seq ?_
  refine pk_region ?_
  refine pk_val rfl rfl rfl (val_assign rfl rfl) ?_
  refine pk_nil ?_
  refine thru_on ?_
  refine pk_seq ?_
  refine pk_region ?_
  refine pk_val rfl rfl rfl (val_move rfl rfl) ?_
  refine pk_val rfl rfl rfl (val_move rfl rfl) ?_
  refine pk_val rfl rfl rfl (val_slice_l rfl Try.underlying48 2 (by kernel_rfl) rfl rfl i rfl hi) ?_
  refine pk_nil ?_
  refine thru_on ?_
  refine pk_seq ?_
  refine pk_region ?_
  refine pk_val rfl rfl rfl (val_move rfl rfl) ?_
  refine pk_val rfl rfl rfl (val_len_slice rfl Try.underlying48 rfl) ?_
  refine pk_val rfl rfl rfl (val_assign rfl rfl) ?_
  refine pk_nil ?_
  refine thru_on ?_
  refine pk_seq ?_
  refine pk_seq ?_
  refine pk_region ?_
  refine pk_val rfl rfl rfl (val_move rfl rfl) ?_
  refine pk_val rfl rfl rfl (val_eql rfl rfl rfl) ?_
  refine pk_nil ?_
  refine thru_on ?_
  refine pk_cond_f rfl ?_
  refine pk_skip ?_
  refine thru_on ?_
  refine pk_seq ?_
  refine pk_region ?_
  refine pk_val rfl rfl rfl (val_move rfl rfl) ?_
  refine pk_val rfl rfl rfl (val_len_slice rfl Try.underlying48 rfl) ?_
  refine pk_val rfl rfl rfl (val_assign rfl rfl) ?_
  refine pk_nil ?_
  refine thru_on ?_
  refine pk_seq ?_
  refine pk_seq ?_
  refine pk_region ?_
  refine pk_val rfl rfl rfl (val_move rfl rfl) ?_
  refine pk_val rfl rfl rfl (val_move rfl rfl) ?_
  refine pk_val rfl rfl rfl (val_eql rfl rfl rfl) ?_
  refine pk_nil ?_
  refine thru_on ?_
  refine pk_if rfl (fun h1 => ?_) (fun h1 => ?_)
  · skip
    refine pk_seq ?_
    refine pk_region ?_
    refine pk_val rfl rfl rfl (val_move rfl rfl) ?_
    refine pk_val rfl rfl rfl (val_move rfl rfl) ?_
    refine pk_eff (eff_append1 (sz := 2) (bytes := 32) (z := .agg #[.int .i64 0, .slice none 0 0]) 0 rfl Try.underlying48 (by kernel_rfl) rfl (by decide) (by decide) rfl rfl rfl (Ent.own 1 rfl) hxl hul hu1 hfit) rfl rfl rfl (fun q25 _ => ?_)
    refine pk_val rfl rfl rfl (val_assign rfl rfl) ?_
    refine pk_nil ?_
    refine thru_on ?_
    refine pk_ret ?_
    refine thru_ret ?_
    have hin : i = n := by omega
    refine ret1 rfl rfl fun w s => ⟨q25, trivial, rfl, s.to fun _ h => ?_⟩
    rw [List.take_of_length_le (by omega), List.drop_eq_nil_of_le (by omega), List.append_nil]
    exact (Sats.keep [true, false] h)
  · skip
    refine pk_skip ?_
    refine thru_on ?_
    have hin : i < n := by omega
    refine pk_seq ?_
    refine pk_seq ?_
    refine pk_region ?_
    refine pk_val rfl rfl rfl (val_move rfl rfl) ?_
    refine pk_val rfl rfl rfl (val_move rfl rfl) ?_
    refine pk_val rfl rfl rfl (val_add rfl rfl rfl (by omega)) ?_
    refine pk_val rfl rfl rfl (val_move rfl rfl) ?_
    refine pk_val rfl rfl rfl (val_cap_slice rfl Try.underlying48 rfl) ?_
    refine pk_val rfl rfl rfl (val_gtr rfl rfl rfl) ?_
    refine pk_nil ?_
    refine thru_on ?_
    refine pk_if rfl (fun h2 => ?_) (fun h2 => ?_)
    · skip
      refine pk_seq ?_
      refine pk_region ?_
      refine pk_val rfl rfl rfl (val_move rfl rfl) ?_
      refine pk_val rfl rfl rfl (val_move rfl rfl) ?_
      refine pk_val rfl rfl rfl (val_slice_h rfl Try.underlying48 (by kernel_rfl) rfl rfl i rfl (by omega)) ?_
      refine pk_val rfl rfl rfl (val_move rfl rfl) ?_
      refine pk_val rfl rfl rfl (val_move rfl rfl) ?_
      refine pk_val rfl rfl rfl (val_add rfl rfl rfl (by omega)) ?_
      refine pk_val rfl rfl rfl (val_move rfl rfl) ?_
      refine pk_val rfl rfl rfl (val_sub rfl rfl rfl (by omega)) ?_
      refine pk_eff (eff_appendZ (sz := 2) (bytes := 32) (z := .agg #[.int .i64 0, .slice none 0 0]) (k := n + 1 - i) 0 rfl Try.underlying48 Try.underlying3 (by kernel_rfl) rfl (by decide) (by decide) rfl rfl (by omega) rfl (by omega) (by omega) (by omega) (by rw [show i + (n + 1 - i) = n + 1 by omega]; exact hfit)) rfl rfl rfl (fun z40 hz40 => ?_)
      refine Pk.slot 40 (v := .slice (some ⟨z40.1, 0, none⟩) (n + 1) z40.2.1) rfl (by congr 1; omega) ?_
      refine Pk.tells (Ent.cap 0 rfl) fun hzc => ?_
      refine pk_val rfl rfl rfl (val_assign rfl rfl) ?_
      refine pk_nil ?_
      refine thru_on ?_
      refine pk_seq ?_
      refine pk_region ?_
      refine pk_val rfl rfl rfl (val_move rfl rfl) ?_
      refine pk_val rfl rfl rfl (val_move rfl rfl) ?_
      refine pk_val rfl rfl rfl (val_slice_l rfl Try.underlying48 2 (by kernel_rfl) rfl rfl i rfl (by omega)) ?_
      refine pk_val rfl rfl rfl (val_move rfl rfl) ?_
      refine pk_eff (eff_copy (k := i) 0 rfl Try.underlying48 (by kernel_rfl) (by decide) rfl rfl rfl (.inr (subA_of (by omega))) (Ent.own 2 rfl) (by omega) hu1 (by rw [List.length_append, List.length_take, hz40]; omega)) rfl rfl rfl (fun _ _ => ?_)
      refine pk_nil ?_
      refine thru_on ?_
      refine pk_seq ?_
      refine pk_drawk (.val 0 (.val 1 (.val 2 (.val 3 (.val 4 (.val 5 (.val 6 (.val 7 (.eff 8 .nil))))))))) 1009 [false, true, true] rfl (by kernel_rfl) (fun _ _ _ _ _ h => h) ?_
      refine ord_val rfl rfl rfl rfl (fun _ h => (Sats.keep [false, true, true] h :)) (val_move rfl rfl) ?_
      refine ord_val rfl rfl rfl rfl (fun _ h => (Sats.keep [false, true, true] h :)) (val_move rfl rfl) ?_
      refine ord_val rfl rfl rfl rfl (fun _ h => (Sats.keep [false, true, true] h :)) (val_move rfl rfl) ?_
      refine ord_val rfl rfl rfl rfl (fun _ h => (Sats.keep [false, true, true] h :)) (val_add rfl rfl rfl (by omega)) ?_
      refine ord_val rfl rfl rfl rfl (fun _ h => (Sats.keep [false, true, true] h :)) (val_slice_l rfl Try.underlying48 2 (by kernel_rfl) rfl rfl (i + 1) rfl (by omega)) ?_
      refine ord_val rfl rfl rfl rfl (fun _ h => (Sats.keep [false, true, true] h :)) (val_move rfl rfl) ?_
      refine ord_val rfl rfl rfl rfl (fun _ h => (Sats.keep [false, true, true] h :)) (val_move rfl rfl) ?_
      refine ord_val rfl rfl rfl rfl (fun _ h => (Sats.keep [false, true, true] h :)) (val_slice_l rfl Try.underlying48 2 (by kernel_rfl) rfl rfl i rfl (by omega)) ?_
      refine ord_eff (eff_copy (k := i + 1) (m' := n - i) (dl := n + 1 - (i + 1)) (ys := xs.drop (i * 2)) 0 rfl Try.underlying48 (by kernel_rfl) (by decide) rfl rfl rfl (.inr (subA_of (by omega))) (Ent.drop (Ent.own 1 rfl) (by omega)) (by rw [List.length_drop]; omega) (drop_one hx1) (by rw [splice_length (by rw [List.length_append, List.length_take, List.length_take, hz40]; omega), List.length_append, List.length_take, hz40]; omega)) rfl rfl rfl rfl (.inr fun _ _ => (fun _ h => (Sats.keep [false, true, true] h :))) (fun _ _ => ?_)
      refine ord_nil ?_
      refine thru_on ?_
      refine pk_seq ?_
      refine pk_region ?_
      refine pk_val rfl rfl rfl (val_move rfl rfl) ?_
      refine pk_val rfl rfl rfl (val_assign rfl rfl) ?_
      refine pk_nil ?_
      refine thru_on ?_
      refine pk_ret ?_
      refine thru_ret ?_
      refine ret1 rfl rfl fun w s => ⟨(some ⟨z40.1, 0, none⟩, z40.2.1), trivial, rfl, s.to fun _ h => ?_⟩
      have h1 := (Sats.keep [true, false, false] h)
      rw [show min 1 (n + 1 - i) = 1 by omega, show min (n - i) (n + 1 - (i + 1)) = n - i by omega, List.take_of_length_le (show u.length ≤ 1 * 2 by omega), List.take_of_length_le (show (xs.drop (i * 2)).length ≤ (n - i) * 2 by rw [List.length_drop]; omega), show (i + 1) * 2 = i * 2 + 2 by omega, insert_grow (by omega) (by omega) (by omega), show i + (n + 1 - i) = n + 1 by omega] at h1
      exact h1
    · skip
      refine pk_skip ?_
      refine thru_on ?_
      refine pk_seq ?_
      refine pk_region ?_
      refine pk_val rfl rfl rfl (val_move rfl rfl) ?_
      refine pk_val rfl rfl rfl (val_move rfl rfl) ?_
      refine pk_val rfl rfl rfl (val_move rfl rfl) ?_
      refine pk_val rfl rfl rfl (val_add rfl rfl rfl (by omega)) ?_
      refine pk_val rfl rfl rfl (val_slice_h rfl Try.underlying48 (by kernel_rfl) rfl rfl (n + 1) rfl (by omega)) ?_
      refine pk_val rfl rfl rfl (val_assign rfl rfl) ?_
      refine pk_nil ?_
      refine thru_on ?_
      refine pk_seq ?_
      refine pk_seq ?_
      refine pk_region ?_
      refine pk_val rfl rfl rfl (val_move rfl rfl) ?_
      refine pk_val rfl rfl rfl (val_move rfl rfl) ?_
      refine pk_val rfl rfl rfl (val_move rfl rfl) ?_
      refine pk_val rfl rfl rfl (val_move rfl rfl) ?_
      refine pk_val rfl rfl rfl (val_add rfl rfl rfl (by omega)) ?_
      refine pk_val rfl rfl rfl (val_slice_l rfl Try.underlying48 2 (by kernel_rfl) rfl rfl (i + 1) rfl (by omega)) ?_
      refine pk_eff (eff_overlaps (t := 48) (tr := 4) 1 0 2 rfl Try.func64 (by kernel_rfl) (by kernel_rfl) (by kernel_rfl) (by kernel_rfl) Try.underlying48 (by kernel_rfl) rfl rfl rfl rfl (by decide) (subA_of (by omega)) (by omega) (by omega)) rfl rfl rfl (fun _ _ => ?_)
      refine pk_val rfl rfl rfl (val_not rfl rfl) ?_
      refine pk_nil ?_
      refine thru_on ?_
      refine pk_cond_t rfl ?_
      refine Pk.pull 0 rfl ?_
      refine Pk.spare fun ys hys => ?_
      have hyl : 2 ≤ ys.length := by rw [List.length_append] at hys; omega
      refine pk_seq ?_
      refine pk_drawk (.val 0 (.val 1 (.val 2 (.val 3 (.val 4 (.val 5 (.val 6 (.val 7 (.eff 8 .nil))))))))) 1009 [false, true] rfl (by kernel_rfl) (fun _ _ _ _ _ h => h) ?_
      refine ord_val rfl rfl rfl rfl (fun _ h => (Sats.keep [false, true] h :)) (val_move rfl rfl) ?_
      refine ord_val rfl rfl rfl rfl (fun _ h => (Sats.keep [false, true] h :)) (val_move rfl rfl) ?_
      refine ord_val rfl rfl rfl rfl (fun _ h => (Sats.keep [false, true] h :)) (val_move rfl rfl) ?_
      refine ord_val rfl rfl rfl rfl (fun _ h => (Sats.keep [false, true] h :)) (val_add rfl rfl rfl (by omega)) ?_
      refine ord_val rfl rfl rfl rfl (fun _ h => (Sats.keep [false, true] h :)) (val_slice_l rfl Try.underlying48 2 (by kernel_rfl) rfl rfl (i + 1) rfl (by omega)) ?_
      refine ord_val rfl rfl rfl rfl (fun _ h => (Sats.keep [false, true] h :)) (val_move rfl rfl) ?_
      refine ord_val rfl rfl rfl rfl (fun _ h => (Sats.keep [false, true] h :)) (val_move rfl rfl) ?_
      refine ord_val rfl rfl rfl rfl (fun _ h => (Sats.keep [false, true] h :)) (val_slice_l rfl Try.underlying48 2 (by kernel_rfl) rfl rfl i rfl (by omega)) ?_
      refine ord_eff (eff_copy (k := i + 1) (m' := n + 1 - i) (dl := n + 1 - (i + 1)) (ys := xs.drop (i * 2)) 0 rfl Try.underlying48 (by kernel_rfl) (by decide) rfl rfl rfl (.inr (subA_of (by omega))) (Ent.drop (Ent.left (Ent.own 0 rfl)) (by omega)) (by rw [List.length_drop]; omega) (drop_one hx1) (by rw [List.length_append]; omega)) rfl rfl rfl rfl (.inr fun _ _ => (fun _ h => (Sats.keep [false, true] h :))) (fun _ _ => ?_)
      refine ord_nil ?_
      refine thru_on ?_
      refine pk_seq ?_
      refine pk_region ?_
      refine pk_val rfl rfl rfl (val_move rfl rfl) ?_
      refine pk_val rfl rfl rfl (val_move rfl rfl) ?_
      refine pk_val rfl rfl rfl (val_slice_l rfl Try.underlying48 2 (by kernel_rfl) rfl rfl i rfl (by omega)) ?_
      refine pk_val rfl rfl rfl (val_move rfl rfl) ?_
      refine pk_eff (eff_copy (k := i) 0 rfl Try.underlying48 (by kernel_rfl) (by decide) rfl rfl rfl (.inr (subA_of (by omega))) (Ent.own 1 rfl) (by omega) hu1 (by rw [splice_length (by rw [List.length_append, List.length_take, List.length_drop]; omega), List.length_append]; omega)) rfl rfl rfl (fun _ _ => ?_)
      refine pk_nil ?_
      refine thru_on ?_
      refine pk_seq ?_
      refine pk_region ?_
      refine pk_val rfl rfl rfl (val_move rfl rfl) ?_
      refine pk_val rfl rfl rfl (val_assign rfl rfl) ?_
      refine pk_nil ?_
      refine thru_on ?_
      refine pk_ret ?_
      refine thru_ret ?_
      refine ret1 rfl rfl fun w s => ⟨(q, c), trivial, rfl, s.to fun _ h => ?_⟩
      have h1 := (Sats.keep [true, false] h)
      rw [show min (n + 1 - i) (n + 1 - (i + 1)) = n - i by omega, show min 1 (n + 1 - i) = 1 by omega, List.take_of_length_le (show u.length ≤ 1 * 2 by omega), List.take_of_length_le (show (xs.drop (i * 2)).length ≤ (n - i) * 2 by rw [List.length_drop]; omega), show (i + 1) * 2 = i * 2 + 2 by omega, insert_room (by omega) (by omega) hyl] at h1
      exact Sats.head (fun _ o => own_pre o (by simp only [List.length_append, List.length_take, List.length_drop]; omega) (by omega)) h1
theorem Insert_PairPart_c {E w : World} {L : List Ch} {q B : Option Addr} {n c cv i : Nat} {xs u : List Value} (s : Sat E w (own q n c 59 2 xs :: own B 1 cv 59 2 u :: L)) (hxl : xs.length = n * 2) (hul : u.length = 1 * 2) (hx1 : xs.all (·.oneCell') = true) (hu1 : u.all (·.oneCell') = true) (hi : i ≤ n) (hfit : (n + 1 + (n + 1) / 4 + 192) * 32 ≤ 281474976710656) :
    Calls Try.prog 44 #[.slice q n c, .int .i64 (i : Nat), .slice B 1 cv] w (GivesX E (fun p : Option Addr × Nat => .slice p.1 (n + 1) p.2) (fun p => own p.1 (n + 1) p.2 59 2 (xs.take (i * 2) ++ u ++ xs.drop (i * 2)) :: L) (fun _ => True)) := by
  refine enter (vs := [_, _, _]) Try.func44 rfl Try.ntmps44 rfl s ?_
  refine Pk.tells (Ent.cap 0 rfl) fun hnc => ?_
  have hfit' := hfit
  refine pk_seq ?_
  refine pk_region ?_
  refine pk_val rfl rfl rfl (val_assign rfl rfl) ?_
  refine pk_nil ?_
  refine thru_on ?_
  refine pk_seq ?_
  refine pk_region ?_
  refine pk_val rfl rfl rfl (val_move rfl rfl) ?_
  refine pk_val rfl rfl rfl (val_move rfl rfl) ?_
  refine pk_val rfl rfl rfl (val_slice_l rfl Try.underlying51 2 (by kernel_rfl) rfl rfl i rfl hi) ?_
  refine pk_nil ?_
  refine thru_on ?_
  refine pk_seq ?_
  refine pk_region ?_
  refine pk_val rfl rfl rfl (val_move rfl rfl) ?_
  refine pk_val rfl rfl rfl (val_len_slice rfl Try.underlying51 rfl) ?_
  refine pk_val rfl rfl rfl (val_assign rfl rfl) ?_
  refine pk_nil ?_
  refine thru_on ?_
  refine pk_seq ?_
  refine pk_seq ?_
  refine pk_region ?_
  refine pk_val rfl rfl rfl (val_move rfl rfl) ?_
  refine pk_val rfl rfl rfl (val_eql rfl rfl rfl) ?_
  refine pk_nil ?_
  refine thru_on ?_
  refine pk_cond_f rfl ?_
  refine pk_skip ?_
  refine thru_on ?_
  refine pk_seq ?_
  refine pk_region ?_
  refine pk_val rfl rfl rfl (val_move rfl rfl) ?_
  refine pk_val rfl rfl rfl (val_len_slice rfl Try.underlying51 rfl) ?_
  refine pk_val rfl rfl rfl (val_assign rfl rfl) ?_
  refine pk_nil ?_
  refine thru_on ?_
  refine pk_seq ?_
  refine pk_seq ?_
  refine pk_region ?_
  refine pk_val rfl rfl rfl (val_move rfl rfl) ?_
  refine pk_val rfl rfl rfl (val_move rfl rfl) ?_
  refine pk_val rfl rfl rfl (val_eql rfl rfl rfl) ?_
  refine pk_nil ?_
  refine thru_on ?_
  refine pk_if rfl (fun h1 => ?_) (fun h1 => ?_)
  · skip
    refine pk_seq ?_
    refine pk_region ?_
    refine pk_val rfl rfl rfl (val_move rfl rfl) ?_
    refine pk_val rfl rfl rfl (val_move rfl rfl) ?_
    refine pk_eff (eff_append1 (sz := 2) (bytes := 32) (z := .agg #[.int .i64 0, .slice none 0 0]) 0 rfl Try.underlying51 (by kernel_rfl) rfl (by decide) (by decide) rfl rfl rfl (Ent.own 1 rfl) hxl hul hu1 hfit) rfl rfl rfl (fun q25 _ => ?_)
    refine pk_val rfl rfl rfl (val_assign rfl rfl) ?_
    refine pk_nil ?_
    refine thru_on ?_
    refine pk_ret ?_
    refine thru_ret ?_
    have hin : i = n := by omega
    refine ret1 rfl rfl fun w s => ⟨q25, trivial, rfl, s.to fun _ h => ?_⟩
    rw [List.take_of_length_le (by omega), List.drop_eq_nil_of_le (by omega), List.append_nil]
    exact (Sats.keep [true, false] h)
  · skip
    refine pk_skip ?_
    refine thru_on ?_
    have hin : i < n := by omega
    refine pk_seq ?_
    refine pk_seq ?_
    refine pk_region ?_
    refine pk_val rfl rfl rfl (val_move rfl rfl) ?_
    refine pk_val rfl rfl rfl (val_move rfl rfl) ?_
    refine pk_val rfl rfl rfl (val_add rfl rfl rfl (by omega)) ?_
    refine pk_val rfl rfl rfl (val_move rfl rfl) ?_
    refine pk_val rfl rfl rfl (val_cap_slice rfl Try.underlying51 rfl) ?_
    refine pk_val rfl rfl rfl (val_gtr rfl rfl rfl) ?_
    refine pk_nil ?_
    refine thru_on ?_
    refine pk_if rfl (fun h2 => ?_) (fun h2 => ?_)
    · skip
      refine pk_seq ?_
      refine pk_region ?_
      refine pk_val rfl rfl rfl (val_move rfl rfl) ?_
      refine pk_val rfl rfl rfl (val_move rfl rfl) ?_
      refine pk_val rfl rfl rfl (val_slice_h rfl Try.underlying51 (by kernel_rfl) rfl rfl i rfl (by omega)) ?_
      refine pk_val rfl rfl rfl (val_move rfl rfl) ?_
      refine pk_val rfl rfl rfl (val_move rfl rfl) ?_
      refine pk_val rfl rfl rfl (val_add rfl rfl rfl (by omega)) ?_
      refine pk_val rfl rfl rfl (val_move rfl rfl) ?_
      refine pk_val rfl rfl rfl (val_sub rfl rfl rfl (by omega)) ?_
      refine pk_eff (eff_appendZ (sz := 2) (bytes := 32) (z := .agg #[.int .i64 0, .slice none 0 0]) (k := n + 1 - i) 0 rfl Try.underlying51 Try.underlying3 (by kernel_rfl) rfl (by decide) (by decide) rfl rfl (by omega) rfl (by omega) (by omega) (by omega) (by rw [show i + (n + 1 - i) = n + 1 by omega]; exact hfit)) rfl rfl rfl (fun z40 hz40 => ?_)
      refine Pk.slot 40 (v := .slice (some ⟨z40.1, 0, none⟩) (n + 1) z40.2.1) rfl (by congr 1; omega) ?_
      refine Pk.tells (Ent.cap 0 rfl) fun hzc => ?_
      refine pk_val rfl rfl rfl (val_assign rfl rfl) ?_
      refine pk_nil ?_
      refine thru_on ?_
      refine pk_seq ?_
      refine pk_region ?_
      refine pk_val rfl rfl rfl (val_move rfl rfl) ?_
      refine pk_val rfl rfl rfl (val_move rfl rfl) ?_
      refine pk_val rfl rfl rfl (val_slice_l rfl Try.underlying51 2 (by kernel_rfl) rfl rfl i rfl (by omega)) ?_
      refine pk_val rfl rfl rfl (val_move rfl rfl) ?_
      refine pk_eff (eff_copy (k := i) 0 rfl Try.underlying51 (by kernel_rfl) (by decide) rfl rfl rfl (.inr (subA_of (by omega))) (Ent.own 2 rfl) (by omega) hu1 (by rw [List.length_append, List.length_take, hz40]; omega)) rfl rfl rfl (fun _ _ => ?_)
      refine pk_nil ?_
      refine thru_on ?_
      refine pk_seq ?_
      refine pk_drawk (.val 0 (.val 1 (.val 2 (.val 3 (.val 4 (.val 5 (.val 6 (.val 7 (.eff 8 .nil))))))))) 1009 [false, true, true] rfl (by kernel_rfl) (fun _ _ _ _ _ h => h) ?_
      refine ord_val rfl rfl rfl rfl (fun _ h => (Sats.keep [false, true, true] h :)) (val_move rfl rfl) ?_
      refine ord_val rfl rfl rfl rfl (fun _ h => (Sats.keep [false, true, true] h :)) (val_move rfl rfl) ?_
      refine ord_val rfl rfl rfl rfl (fun _ h => (Sats.keep [false, true, true] h :)) (val_move rfl rfl) ?_
      refine ord_val rfl rfl rfl rfl (fun _ h => (Sats.keep [false, true, true] h :)) (val_add rfl rfl rfl (by omega)) ?_
      refine ord_val rfl rfl rfl rfl (fun _ h => (Sats.keep [false, true, true] h :)) (val_slice_l rfl Try.underlying51 2 (by kernel_rfl) rfl rfl (i + 1) rfl (by omega)) ?_
      refine ord_val rfl rfl rfl rfl (fun _ h => (Sats.keep [false, true, true] h :)) (val_move rfl rfl) ?_
      refine ord_val rfl rfl rfl rfl (fun _ h => (Sats.keep [false, true, true] h :)) (val_move rfl rfl) ?_
      refine ord_val rfl rfl rfl rfl (fun _ h => (Sats.keep [false, true, true] h :)) (val_slice_l rfl Try.underlying51 2 (by kernel_rfl) rfl rfl i rfl (by omega)) ?_
      refine ord_eff (eff_copy (k := i + 1) (m' := n - i) (dl := n + 1 - (i + 1)) (ys := xs.drop (i * 2)) 0 rfl Try.underlying51 (by kernel_rfl) (by decide) rfl rfl rfl (.inr (subA_of (by omega))) (Ent.drop (Ent.own 1 rfl) (by omega)) (by rw [List.length_drop]; omega) (drop_one hx1) (by rw [splice_length (by rw [List.length_append, List.length_take, List.length_take, hz40]; omega), List.length_append, List.length_take, hz40]; omega)) rfl rfl rfl rfl (.inr fun _ _ => (fun _ h => (Sats.keep [false, true, true] h :))) (fun _ _ => ?_)
      refine ord_nil ?_
      refine thru_on ?_
      refine pk_seq ?_
      refine pk_region ?_
      refine pk_val rfl rfl rfl (val_move rfl rfl) ?_
      refine pk_val rfl rfl rfl (val_assign rfl rfl) ?_
      refine pk_nil ?_
      refine thru_on ?_
      refine pk_ret ?_
      refine thru_ret ?_
      refine ret1 rfl rfl fun w s => ⟨(some ⟨z40.1, 0, none⟩, z40.2.1), trivial, rfl, s.to fun _ h => ?_⟩
      have h1 := (Sats.keep [true, false, false] h)
      rw [show min 1 (n + 1 - i) = 1 by omega, show min (n - i) (n + 1 - (i + 1)) = n - i by omega, List.take_of_length_le (show u.length ≤ 1 * 2 by omega), List.take_of_length_le (show (xs.drop (i * 2)).length ≤ (n - i) * 2 by rw [List.length_drop]; omega), show (i + 1) * 2 = i * 2 + 2 by omega, insert_grow (by omega) (by omega) (by omega), show i + (n + 1 - i) = n + 1 by omega] at h1
      exact h1
    · skip
      refine pk_skip ?_
      refine thru_on ?_
      refine pk_seq ?_
      refine pk_region ?_
      refine pk_val rfl rfl rfl (val_move rfl rfl) ?_
      refine pk_val rfl rfl rfl (val_move rfl rfl) ?_
      refine pk_val rfl rfl rfl (val_move rfl rfl) ?_
      refine pk_val rfl rfl rfl (val_add rfl rfl rfl (by omega)) ?_
      refine pk_val rfl rfl rfl (val_slice_h rfl Try.underlying51 (by kernel_rfl) rfl rfl (n + 1) rfl (by omega)) ?_
      refine pk_val rfl rfl rfl (val_assign rfl rfl) ?_
      refine pk_nil ?_
      refine thru_on ?_
      refine pk_seq ?_
      refine pk_seq ?_
      refine pk_region ?_
      refine pk_val rfl rfl rfl (val_move rfl rfl) ?_
      refine pk_val rfl rfl rfl (val_move rfl rfl) ?_
      refine pk_val rfl rfl rfl (val_move rfl rfl) ?_
      refine pk_val rfl rfl rfl (val_move rfl rfl) ?_
      refine pk_val rfl rfl rfl (val_add rfl rfl rfl (by omega)) ?_
      refine pk_val rfl rfl rfl (val_slice_l rfl Try.underlying51 2 (by kernel_rfl) rfl rfl (i + 1) rfl (by omega)) ?_
      refine pk_eff (eff_overlaps (t := 51) (tr := 4) 1 0 2 rfl Try.func66 (by kernel_rfl) (by kernel_rfl) (by kernel_rfl) (by kernel_rfl) Try.underlying51 (by kernel_rfl) rfl rfl rfl rfl (by decide) (subA_of (by omega)) (by omega) (by omega)) rfl rfl rfl (fun _ _ => ?_)
      refine pk_val rfl rfl rfl (val_not rfl rfl) ?_
      refine pk_nil ?_
      refine thru_on ?_
      refine pk_cond_t rfl ?_
      refine Pk.pull 0 rfl ?_
      refine Pk.spare fun ys hys => ?_
      have hyl : 2 ≤ ys.length := by rw [List.length_append] at hys; omega
      refine pk_seq ?_
      refine pk_drawk (.val 0 (.val 1 (.val 2 (.val 3 (.val 4 (.val 5 (.val 6 (.val 7 (.eff 8 .nil))))))))) 1009 [false, true] rfl (by kernel_rfl) (fun _ _ _ _ _ h => h) ?_
      refine ord_val rfl rfl rfl rfl (fun _ h => (Sats.keep [false, true] h :)) (val_move rfl rfl) ?_
      refine ord_val rfl rfl rfl rfl (fun _ h => (Sats.keep [false, true] h :)) (val_move rfl rfl) ?_
      refine ord_val rfl rfl rfl rfl (fun _ h => (Sats.keep [false, true] h :)) (val_move rfl rfl) ?_
      refine ord_val rfl rfl rfl rfl (fun _ h => (Sats.keep [false, true] h :)) (val_add rfl rfl rfl (by omega)) ?_
      refine ord_val rfl rfl rfl rfl (fun _ h => (Sats.keep [false, true] h :)) (val_slice_l rfl Try.underlying51 2 (by kernel_rfl) rfl rfl (i + 1) rfl (by omega)) ?_
      refine ord_val rfl rfl rfl rfl (fun _ h => (Sats.keep [false, true] h :)) (val_move rfl rfl) ?_
      refine ord_val rfl rfl rfl rfl (fun _ h => (Sats.keep [false, true] h :)) (val_move rfl rfl) ?_
      refine ord_val rfl rfl rfl rfl (fun _ h => (Sats.keep [false, true] h :)) (val_slice_l rfl Try.underlying51 2 (by kernel_rfl) rfl rfl i rfl (by omega)) ?_
      refine ord_eff (eff_copy (k := i + 1) (m' := n + 1 - i) (dl := n + 1 - (i + 1)) (ys := xs.drop (i * 2)) 0 rfl Try.underlying51 (by kernel_rfl) (by decide) rfl rfl rfl (.inr (subA_of (by omega))) (Ent.drop (Ent.left (Ent.own 0 rfl)) (by omega)) (by rw [List.length_drop]; omega) (drop_one hx1) (by rw [List.length_append]; omega)) rfl rfl rfl rfl (.inr fun _ _ => (fun _ h => (Sats.keep [false, true] h :))) (fun _ _ => ?_)
      refine ord_nil ?_
      refine thru_on ?_
      refine pk_seq ?_
      refine pk_region ?_
      refine pk_val rfl rfl rfl (val_move rfl rfl) ?_
      refine pk_val rfl rfl rfl (val_move rfl rfl) ?_
      refine pk_val rfl rfl rfl (val_slice_l rfl Try.underlying51 2 (by kernel_rfl) rfl rfl i rfl (by omega)) ?_
      refine pk_val rfl rfl rfl (val_move rfl rfl) ?_
      refine pk_eff (eff_copy (k := i) 0 rfl Try.underlying51 (by kernel_rfl) (by decide) rfl rfl rfl (.inr (subA_of (by omega))) (Ent.own 1 rfl) (by omega) hu1 (by rw [splice_length (by rw [List.length_append, List.length_take, List.length_drop]; omega), List.length_append]; omega)) rfl rfl rfl (fun _ _ => ?_)
      refine pk_nil ?_
      refine thru_on ?_
      refine pk_seq ?_
      refine pk_region ?_
      refine pk_val rfl rfl rfl (val_move rfl rfl) ?_
      refine pk_val rfl rfl rfl (val_assign rfl rfl) ?_
      refine pk_nil ?_
      refine thru_on ?_
      refine pk_ret ?_
      refine thru_ret ?_
      refine ret1 rfl rfl fun w s => ⟨(q, c), trivial, rfl, s.to fun _ h => ?_⟩
      have h1 := (Sats.keep [true, false] h)
      rw [show min (n + 1 - i) (n + 1 - (i + 1)) = n - i by omega, show min 1 (n + 1 - i) = 1 by omega, List.take_of_length_le (show u.length ≤ 1 * 2 by omega), List.take_of_length_le (show (xs.drop (i * 2)).length ≤ (n - i) * 2 by rw [List.length_drop]; omega), show (i + 1) * 2 = i * 2 + 2 by omega, insert_room (by omega) (by omega) hyl] at h1
      exact Sats.head (fun _ o => own_pre o (by simp only [List.length_append, List.length_take, List.length_drop]; omega) (by omega)) h1
end Go.Proofs.Ytdpckendkklfdaa
