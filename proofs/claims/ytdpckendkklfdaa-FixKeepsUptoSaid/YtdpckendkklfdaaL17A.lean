/- The walks of rampartlaw17, first part: key, keys, rest, has, made, sameTexts is in FixB. -/
import Derived.Test.YtdpckendkklfdaaFixF
set_option linter.unusedVariables false
set_option linter.unusedSimpArgs false
set_option maxRecDepth 100000
namespace Go.Proofs.Ytdpckendkklfdaa
open Go.RowKit Go.Proofs.Eng
def keyB (i : Nat) : ByteArray := strOfNums [97 + (i : Int)]
def bitB (mask : Int) (i : Nat) : Bool := decide (IntKind.i64.wrap (BitVec.ofInt IntKind.i64.bits (mask.fdiv (2 ^ (min (i : Int).toNat IntKind.i64.bits))) &&& BitVec.ofInt IntKind.i64.bits 1).toNat = 1)
def keysK (mask : Int) (k : Nat) : List ByteArray := ((List.range k).filter (bitB mask)).map keyB
def keysB (mask : Int) : List ByteArray := if keysK mask 8 = [] then [keyB 0] else keysK mask 8
theorem keysK_succ (mask : Int) (k : Nat) : keysK mask (k + 1) = keysK mask k ++ (if bitB mask k = true then [keyB k] else []) := by
  simp only [keysK, List.range_succ, List.filter_append, List.map_append]
  congr 1
  by_cases h : bitB mask k = true <;> simp [h]
theorem keysK_len (mask : Int) (k : Nat) : (keysK mask k).length ≤ k := by
  have := List.length_filter_le (bitB mask) (List.range k)
  simp only [keysK, List.length_map]
  simpa using this
def restN (n : Int) (most : Nat) : Nat := ((if n.tmod ((most : Int) + 1) < 0 then n.tmod ((most : Int) + 1) + most + 1 else n.tmod ((most : Int) + 1))).toNat
theorem tmod_bounds (n : Int) (m : Nat) : -((m : Int)) ≤ n.tmod ((m : Int) + 1) ∧ n.tmod ((m : Int) + 1) ≤ m := by
  have h1 := Int.tmod_lt_of_pos n (show (0 : Int) < (m : Int) + 1 by omega)
  have h2 := Int.lt_tmod_of_pos n (show (0 : Int) < (m : Int) + 1 by omega)
  omega
theorem restN_le (n : Int) (m : Nat) : restN n m ≤ m := by
  have := tmod_bounds n m
  unfold restN
  split <;> omega
theorem law17_key_c {E w : World} {L : List Ch} {i : Nat} (s : Sat E w L) (hi : i < 100) :
    Calls Try.prog 58 #[.int .i64 (i : Nat)] w (Gives E (.string (keyB i)) L) := by
  refine enter (vs := [_]) Try.func58 rfl Try.ntmps58 rfl s ?_
  refine pk_seq ?_
  refine pk_region ?_
  refine pk_val rfl rfl rfl (val_assign rfl rfl) ?_
  refine pk_nil ?_
  refine thru_on ?_
  refine pk_seq ?_
  refine pk_region ?_
  refine pk_val rfl rfl rfl (val_move rfl rfl) ?_
  refine pk_val rfl rfl rfl (val_add rfl rfl rfl (by omega)) ?_
  refine pk_val rfl rfl rfl (val_conv_fit rfl Try.underlying3 Try.underlying5 rfl (by simp [IntKind.wrap, IntKind.bits, IntKind.signed]; omega)) ?_
  refine pk_eff (eff_buildSlice (len := 1) (sz := 1) (z := #[.int .u8 0]) rfl Try.underlying77 (by kernel_rfl) rfl rfl rfl (by decide) (by decide) rfl rfl) rfl rfl rfl (fun b6 _ => ?_)
  refine pk_val rfl rfl rfl (val_bytes_string (xs := [97 + (i : Int)]) rfl Try.underlying77 Try.underlying5 Try.underlying9 rfl (Ent.own 0 rfl) rfl) ?_
  refine pk_val rfl rfl rfl (val_assign rfl rfl) ?_
  refine pk_nil ?_
  refine thru_on ?_
  refine pk_ret ?_
  refine ret1 rfl rfl fun w s => ⟨rfl, s.to fun _ h => h.tail⟩
theorem law17_keys_c {E w : World} {L : List Ch} {mask : Int} (s : Sat E w L) :
    Calls Try.prog 25 #[.int .i64 mask] w (GivesX E (fun q : Option Addr × Nat => .slice q.1 (keysB mask).length q.2) (fun q => own q.1 (keysB mask).length q.2 9 1 ((keysB mask).map .string) :: L) (fun _ => True)) := by
  refine enter (vs := [_]) Try.func25 rfl Try.ntmps25 rfl s ?_
  refine Pk.nilrow 9 1 ?_
  refine pk_seq ?_
  refine pk_region ?_
  refine pk_val rfl rfl rfl (val_assign rfl rfl) ?_
  refine pk_nil ?_
  refine thru_on ?_
  refine pk_seq ?_
  refine pk_region ?_
  refine pk_val rfl rfl rfl (val_assign rfl rfl) ?_
  refine pk_nil ?_
  refine thru_on ?_
  refine pk_seq ?_
  refine pk_seq ?_
  refine pk_region ?_
  refine pk_val rfl rfl rfl (val_assign rfl rfl) ?_
  refine pk_nil ?_
  refine thru_on ?_
  refine pk_block ?_
  refine pk_loop (α := Nat × Option Addr × Nat) ((0, none, 0)) (fun y => [(0, .int .i64 mask), (3, .slice y.2.1 (keysK mask y.1).length y.2.2), (4, .int .i64 (y.1 : Nat))]) (fun y => (own y.2.1 (keysK mask y.1).length y.2.2 9 1 ((keysK mask y.1).map .string)) :: L) (fun y => y.1 ≤ 8) (fun y => 8 - y.1) ?_ ?_ ?_ ?_
  · (try dsimp only); exact Nat.zero_le _
  · exact ⟨(Sub.cons rfl (by first | rfl | (congr 1; omega) | simp) (Sub.cons rfl (by first | rfl | (congr 1; omega) | simp) (Sub.cons rfl (by first | rfl | (congr 1; omega) | simp) (Sub.nil _)))), rfl⟩
  · exact (fun _ h => h)
  rintro ⟨k, q, d⟩ hk0
  dsimp only at hk0 ⊢
  have hkl := keysK_len mask k
  refine pk_seq ?_
  refine pk_seq ?_
  refine pk_region ?_
  refine pk_val rfl rfl rfl (val_move rfl rfl) ?_
  refine pk_val rfl rfl rfl (val_lss rfl rfl rfl) ?_
  refine pk_nil ?_
  refine thru_on ?_
  refine pk_if rfl (fun h1 => ?_) (fun h1 => ?_)
  · skip
    refine pk_skip ?_
    refine thru_on ?_
    refine pk_seq ?_
    refine pk_block ?_
    refine pk_seq ?_
    refine pk_region ?_
    refine pk_val rfl rfl rfl (val_move rfl rfl) ?_
    refine pk_val rfl rfl rfl (val_move rfl rfl) ?_
    refine pk_val rfl rfl rfl (val_shrw rfl rfl rfl (by omega)) ?_
    refine pk_val rfl rfl rfl (val_andw rfl rfl rfl) ?_
    refine pk_val rfl rfl rfl (val_eql rfl rfl rfl) ?_
    refine pk_nil ?_
    refine thru_on ?_
    refine pk_if rfl (fun h2 => ?_) (fun h2 => ?_)
    · skip
      have hb : bitB mask k = true := by simp only [bitB, decide_eq_true_eq]; exact h2
      refine pk_region ?_
      refine pk_val rfl rfl rfl (val_move rfl rfl) ?_
      refine pk_val rfl rfl rfl (val_move rfl rfl) ?_
      refine pk_eff (eff_call1 rfl ⟨_, Try.func58, by kernel_rfl, rfl⟩ rfl (fun E w s => law17_key_c s (by omega))) rfl rfl rfl (fun _ _ => ?_)
      refine pk_eff (eff_buildSlice (len := 1) (sz := 1) (z := #[.string ⟨#[]⟩]) rfl Try.underlying34 (by kernel_rfl) rfl rfl rfl (by decide) (by decide) rfl rfl) rfl rfl rfl (fun b17 _ => ?_)
      refine pk_eff (eff_append1 (sz := 1) (bytes := 16) (z := .string ⟨#[]⟩) 1 rfl Try.underlying34 (by kernel_rfl) rfl (by decide) (by decide) rfl rfl rfl (Ent.own 0 rfl) (by first | rfl | (simp; done) | exact flat_length (s := 1) (fun _ => rfl) _) (by first | rfl | (simp; done)) rfl (by omega)) rfl rfl rfl (fun q18 _ => ?_)
      refine pk_val rfl rfl rfl (val_assign rfl rfl) ?_
      refine pk_nil ?_
      refine in_on ?_
      refine thru_on ?_
      refine pk_region ?_
      refine pk_val rfl rfl rfl (val_move rfl rfl) ?_
      refine pk_val rfl rfl rfl (val_add rfl rfl rfl (by omega)) ?_
      refine pk_val rfl rfl rfl (val_assign rfl rfl) ?_
      refine pk_nil ?_
      refine thru_on ?_
      refine pk_next (x := ⟨k, q, d⟩) ((k + 1, q18.1, q18.2)) ?_ ?_ ?_ ?_
      · (try dsimp only) <;> exact (by omega)
      · (try dsimp only); exact (by omega)
      · exact ⟨(Sub.cons rfl (by first | rfl | (congr 1; omega) | simp) (Sub.cons rfl (by (try dsimp only); rw [keysK_succ, if_pos hb]; simp) (Sub.cons rfl (by first | rfl | (congr 1; omega) | simp) (Sub.nil _)))), rfl⟩
      · exact (fun _ h => by (try dsimp only); rw [keysK_succ, if_pos hb, List.map_append, List.length_append]; exact h.tail)
    · skip
      refine pk_skip ?_
      refine in_on ?_
      refine thru_on ?_
      have hb : ¬ bitB mask k = true := by simp only [bitB, decide_eq_true_eq]; exact h2
      refine pk_region ?_
      refine pk_val rfl rfl rfl (val_move rfl rfl) ?_
      refine pk_val rfl rfl rfl (val_add rfl rfl rfl (by omega)) ?_
      refine pk_val rfl rfl rfl (val_assign rfl rfl) ?_
      refine pk_nil ?_
      refine thru_on ?_
      refine pk_next (x := ⟨k, q, d⟩) ((k + 1, q, d)) ?_ ?_ ?_ ?_
      · (try dsimp only) <;> exact (by omega)
      · (try dsimp only); exact (by omega)
      · exact ⟨(Sub.cons rfl (by first | rfl | (congr 1; omega) | simp) (Sub.cons rfl (by (try dsimp only); rw [keysK_succ, if_neg hb]; simp) (Sub.cons rfl (by first | rfl | (congr 1; omega) | simp) (Sub.nil _)))), rfl⟩
      · exact (fun _ h => by (try dsimp only); rw [keysK_succ, if_neg hb, List.append_nil]; exact h)
  · skip
    have hk : k = 8 := by omega
    subst hk
    refine pk_exit ?_
    refine thru ?_
    refine thru ?_
    refine pk_here ?_
    refine thru_on ?_
    refine pk_seq ?_
    refine pk_seq ?_
    refine pk_region ?_
    refine pk_val rfl rfl rfl (val_move rfl rfl) ?_
    refine pk_val rfl rfl rfl (val_len_slice rfl Try.underlying34 rfl) ?_
    refine pk_val rfl rfl rfl (val_eql rfl rfl rfl) ?_
    refine pk_nil ?_
    refine thru_on ?_
    refine pk_if rfl (fun h3 => ?_) (fun h3 => ?_)
    · skip
      refine pk_seq ?_
      refine pk_region ?_
      refine pk_eff (eff_call1 rfl ⟨_, Try.func58, by kernel_rfl, rfl⟩ rfl (fun E w s => law17_key_c (i := 0) s (by omega))) rfl rfl rfl (fun _ _ => ?_)
      refine pk_eff (eff_buildSlice (len := 1) (sz := 1) (z := #[.string ⟨#[]⟩]) rfl Try.underlying34 (by kernel_rfl) rfl rfl rfl (by decide) (by decide) rfl rfl) rfl rfl rfl (fun b23 _ => ?_)
      refine pk_val rfl rfl rfl (val_assign rfl rfl) ?_
      refine pk_nil ?_
      refine thru_on ?_
      refine pk_ret ?_
      refine thru_ret ?_
      have e : keysB mask = [keyB 0] := by rw [keysB, if_pos (List.length_eq_zero_iff.1 (by omega))]
      rw [e]
      refine ret1 rfl rfl fun w s => ⟨(some ⟨b23, 0, none⟩, 1), trivial, rfl, s.to fun _ h => Sats.keep [true, false] h⟩
    · skip
      refine pk_skip ?_
      refine thru_on ?_
      refine pk_seq ?_
      refine pk_region ?_
      refine pk_val rfl rfl rfl (val_move rfl rfl) ?_
      refine pk_val rfl rfl rfl (val_assign rfl rfl) ?_
      refine pk_nil ?_
      refine thru_on ?_
      refine pk_ret ?_
      have e : keysB mask = keysK mask 8 := by rw [keysB, if_neg (fun h => h3 (by rw [h]; rfl))]
      rw [e]
      refine ret1 rfl rfl fun w s => ⟨(q, d), trivial, rfl, s⟩
theorem law17_rest_c {E w : World} {L : List Ch} {n : Int} {m : Nat} (s : Sat E w L) (hm : m ≤ 1099511627776) :
    Calls Try.prog 26 #[.int .i64 n, .int .i64 (m : Nat)] w (Gives E (.int .i64 (restN n m : Nat)) L) := by
  refine enter (vs := [_, _]) Try.func26 rfl Try.ntmps26 rfl s ?_
  have hb := tmod_bounds n m
  refine pk_seq ?_
  refine pk_region ?_
  refine pk_val rfl rfl rfl (val_assign rfl rfl) ?_
  refine pk_nil ?_
  refine thru_on ?_
  refine pk_seq ?_
  refine pk_region ?_
  refine pk_val rfl rfl rfl (val_move rfl rfl) ?_
  refine pk_val rfl rfl rfl (val_move rfl rfl) ?_
  refine pk_val rfl rfl rfl (val_add rfl rfl rfl (by omega)) ?_
  refine pk_val rfl rfl rfl (val_remw rfl rfl rfl (by omega)) ?_
  refine pk_val rfl rfl rfl (val_assign rfl rfl) ?_
  refine pk_nil ?_
  refine thru_on ?_
  refine pk_seq ?_
  refine pk_seq ?_
  refine pk_region ?_
  refine pk_val rfl rfl rfl (val_move rfl rfl) ?_
  refine pk_val rfl rfl rfl (val_lss rfl rfl rfl) ?_
  refine pk_nil ?_
  refine thru_on ?_
  refine pk_if rfl (fun h => ?_) (fun h => ?_)
  · skip
    refine pk_region ?_
    refine pk_val rfl rfl rfl (val_move rfl rfl) ?_
    refine pk_val rfl rfl rfl (val_move rfl rfl) ?_
    refine pk_val rfl rfl rfl (val_add rfl rfl rfl (by omega)) ?_
    refine pk_val rfl rfl rfl (val_add rfl rfl rfl (by omega)) ?_
    refine pk_val rfl rfl rfl (val_assign rfl rfl) ?_
    refine pk_nil ?_
    refine thru_on ?_
    refine pk_seq ?_
    refine pk_region ?_
    refine pk_val rfl rfl rfl (val_move rfl rfl) ?_
    refine pk_val rfl rfl rfl (val_assign rfl rfl) ?_
    refine pk_nil ?_
    refine thru_on ?_
    refine pk_ret ?_
    refine ret1 rfl rfl fun w s => ⟨?_, s⟩
    have e : ((restN n m : Nat) : Int) = n.tmod ((m : Int) + 1) + m + 1 := by unfold restN; rw [if_pos h]; omega
    rw [e]
  · skip
    refine pk_skip ?_
    refine thru_on ?_
    refine pk_seq ?_
    refine pk_region ?_
    refine pk_val rfl rfl rfl (val_move rfl rfl) ?_
    refine pk_val rfl rfl rfl (val_assign rfl rfl) ?_
    refine pk_nil ?_
    refine thru_on ?_
    refine pk_ret ?_
    refine ret1 rfl rfl fun w s => ⟨?_, s⟩
    have e : ((restN n m : Nat) : Int) = n.tmod ((m : Int) + 1) := by unfold restN; rw [if_neg h]; omega
    rw [e]
theorem law17_has_c {E w : World} {L : List Ch} {A : Option Addr} {c : Nat} {l : List ByteArray} {x : ByteArray} (s : Sat E w L) (hr : Ent L (RdL A (l.map .string))) (hl : l.length ≤ 1099511627776) :
    Calls Try.prog 27 #[.slice A l.length c, .string x] w (Gives E (.bool (memB l x)) L) := by
  refine enter (vs := [_, _]) Try.func27 rfl Try.ntmps27 rfl s ?_
  refine pk_seq ?_
  refine pk_region ?_
  refine pk_val rfl rfl rfl (val_assign rfl rfl) ?_
  refine pk_nil ?_
  refine thru_on ?_
  refine pk_seq ?_
  refine pk_seq ?_
  refine pk_region ?_
  refine pk_val rfl rfl rfl (val_assign rfl rfl) ?_
  refine pk_nil ?_
  refine thru_on ?_
  refine pk_block ?_
  refine pk_loop (α := Nat) (0) (fun k => [(0, .slice A l.length c), (1, .string x), (5, .int .i64 (k : Nat))]) (fun k => L) (fun k => k ≤ l.length ∧ ∀ j, j < k → ¬ l.getD j emp = x) (fun k => l.length - k) ?_ ?_ ?_ ?_
  · (try dsimp only); exact ⟨Nat.zero_le _, fun j h => by omega⟩
  · exact ⟨(Sub.cons rfl (by first | rfl | (congr 1; omega) | simp) (Sub.cons rfl (by first | rfl | (congr 1; omega) | simp) (Sub.cons rfl (by first | rfl | (congr 1; omega) | simp) (Sub.nil _)))), rfl⟩
  · exact (fun _ h => h)
  rintro k ⟨hk0, hk⟩
  refine pk_seq ?_
  refine pk_seq ?_
  refine pk_region ?_
  refine pk_val rfl rfl rfl (val_move rfl rfl) ?_
  refine pk_val rfl rfl rfl (val_move rfl rfl) ?_
  refine pk_val rfl rfl rfl (val_len_slice rfl Try.underlying34 rfl) ?_
  refine pk_val rfl rfl rfl (val_lss rfl rfl rfl) ?_
  refine pk_nil ?_
  refine thru_on ?_
  refine pk_if rfl (fun h1 => ?_) (fun h1 => ?_)
  · skip
    refine pk_skip ?_
    refine thru_on ?_
    refine Pk.tells (hr.some_of (by rw [List.length_map]; omega)) fun hA => ?_
    refine pk_seq ?_
    refine pk_block ?_
    refine pk_seq ?_
    refine pk_region ?_
    refine pk_val rfl rfl rfl (val_move rfl rfl) ?_
    refine pk_val rfl rfl rfl (val_move rfl rfl) ?_
    refine pk_val rfl rfl rfl (val_indexAddr rfl Try.underlying34 1 (by kernel_rfl) rfl rfl k rfl (by omega) (Ent.pure hA)) ?_
    refine pk_val rfl rfl rfl (val_load rfl Try.underlying9 rfl rfl (by first | exact hr.rd (get_map emp (by omega)))) ?_
    refine pk_val rfl rfl rfl (val_move rfl rfl) ?_
    refine pk_val rfl rfl rfl (val_str_eql rfl rfl rfl) ?_
    refine pk_nil ?_
    refine thru_on ?_
    refine pk_if rfl (fun h2 => ?_) (fun h2 => ?_)
    · skip
      refine pk_seq ?_
      refine pk_region ?_
      refine pk_val rfl rfl rfl (val_assign rfl rfl) ?_
      refine pk_nil ?_
      refine thru_on ?_
      refine pk_ret ?_
      refine in_ret ?_
      refine thru_ret ?_
      refine thru_ret ?_
      refine in_ret ?_
      refine thru_ret ?_
      refine ret1 rfl rfl fun w s => ⟨?_, s⟩
      have e : memB l x = true := memB_iff.2 (by rw [← h2]; exact getD_mem emp (by omega))
      rw [e]
    · skip
      refine pk_skip ?_
      refine in_on ?_
      refine thru_on ?_
      refine pk_region ?_
      refine pk_val rfl rfl rfl (val_move rfl rfl) ?_
      refine pk_val rfl rfl rfl (val_add rfl rfl rfl (by omega)) ?_
      refine pk_val rfl rfl rfl (val_assign rfl rfl) ?_
      refine pk_nil ?_
      refine thru_on ?_
      refine pk_next (x := k) (k + 1) ?_ ?_ ?_ ?_
      · (try dsimp only) <;> exact ⟨by omega, fun j hj => by
              by_cases e : j = k
              · subst e; exact h2
              · exact hk j (by omega)⟩
      · (try dsimp only); exact (by omega)
      · exact ⟨(Sub.cons rfl (by first | rfl | (congr 1; omega) | simp) (Sub.cons rfl (by first | rfl | (congr 1; omega) | simp) (Sub.cons rfl (by first | rfl | (congr 1; omega) | simp) (Sub.nil _)))), rfl⟩
      · exact (fun _ h => h)
  · skip
    refine pk_exit ?_
    refine thru ?_
    refine thru ?_
    refine pk_here ?_
    refine thru_on ?_
    refine pk_seq ?_
    refine pk_region ?_
    refine pk_val rfl rfl rfl (val_assign rfl rfl) ?_
    refine pk_nil ?_
    refine thru_on ?_
    refine pk_ret ?_
    refine ret1 rfl rfl fun w s => ⟨?_, s⟩
    have e : memB l x = false := memB_not (fun hm => by
      obtain ⟨j, hj, hx⟩ := List.mem_iff_getElem.1 hm
      exact hk j (by omega) (by simpa [hj] using hx))
    rw [e]
def madeAv (masks : List Int) (i : Nat) (k : ByteArray) : Av := ⟨k, 65536 * ((i : Int) + 1), k ++ strOfNums [IntKind.u8.wrap (i : Int)], keysB (masks.getD i 0)⟩
theorem law17_made_c {E w : World} {L : List Ch} {M : Option Addr} {c i : Nat} {masks : List Int} {k : ByteArray} (s : Sat E w L) (hM : Ent L (RdL M (masks.map (.int .i64)))) (hi : i < masks.length) (hl : masks.length ≤ 1099511627776) (hk : k.size ≤ 1099511627776) :
    Calls Try.prog 9 #[.slice M masks.length c, .int .i64 (i : Nat), .string k] w (GivesX E (fun q : Option Addr × Nat => .agg (⟨madeAv masks i k, q.1, q.2⟩ : Ver).cells.toArray) (fun q => keysCh ⟨madeAv masks i k, q.1, q.2⟩ :: L) (fun _ => True)) := by
  refine enter (vs := [_, _, _]) Try.func9 rfl Try.ntmps9 rfl s ?_
  refine Pk.tells (hM.some_of (by rw [List.length_map]; omega)) fun hA => ?_
  refine pk_seq ?_
  refine pk_region ?_
  refine pk_eff (eff_alloc (z := [.string ⟨#[]⟩, .int .u64 0, .string ⟨#[]⟩, .slice none 0 0]) rfl (by kernel_rfl)) rfl rfl rfl (fun b6 _ => ?_)
  refine pk_nil ?_
  refine thru_on ?_
  refine pk_seq ?_
  refine pk_drawk (.val 0 (.val 1 (.val 2 (.val 3 (.val 4 (.val 5 (.val 6 (.val 7 (.val 11 (.val 12 (.val 13 (.val 14 (.two 8 (.two 9 (.val 10 (.eff 15 (.val 16 (.eff 17 .nil)))) 15 (.eff 9 (.val 10 (.val 16 (.eff 17 .nil))))) 15 (.eff 8 (.eff 9 (.val 10 (.val 16 (.eff 17 .nil)))))))))))))))))) 17 [] rfl (by kernel_rfl) (fun _ _ _ _ _ h => h) ?_
  refine ord_val rfl rfl rfl rfl (fun _ h => h) (val_move rfl rfl) ?_
  refine ord_val rfl rfl rfl rfl (fun _ h => h) (val_move rfl rfl) ?_
  refine ord_val rfl rfl rfl rfl (fun _ h => h) (val_add rfl rfl rfl (by omega)) ?_
  refine ord_val rfl rfl rfl rfl (fun _ h => h) (val_mul rfl rfl rfl (by omega)) ?_
  refine ord_val rfl rfl rfl rfl (fun _ h => h) (val_conv_fit rfl Try.underlying3 Try.underlying31 rfl (by simp [IntKind.wrap, IntKind.bits, IntKind.signed]; omega)) ?_
  refine ord_val rfl rfl rfl rfl (fun _ h => h) (val_move rfl rfl) ?_
  refine ord_val rfl rfl rfl rfl (fun _ h => h) (val_move rfl rfl) ?_
  refine ord_val rfl rfl rfl rfl (fun _ h => h) (val_conv_int rfl Try.underlying3 Try.underlying5 rfl) ?_
  refine ord_val rfl rfl rfl rfl (fun _ h => h) (val_move rfl rfl) ?_
  refine ord_val rfl rfl rfl rfl (fun _ h => h) (val_move rfl rfl) ?_
  refine ord_val rfl rfl rfl rfl (fun _ h => h) (val_indexAddr rfl Try.underlying22 1 (by kernel_rfl) rfl rfl i rfl hi (Ent.pure hA)) ?_
  refine ord_val rfl rfl rfl rfl (fun _ h => h) (val_load rfl Try.underlying3 rfl rfl (hM.cons.rd (get_map 0 hi))) ?_
  refine ord_two ?_ ?_
  · skip
    refine ord_eff (eff_buildSlice (len := 1) (sz := 1) (z := #[.int .u8 0]) rfl Try.underlying77 (by kernel_rfl) rfl rfl rfl (by decide) (by decide) rfl rfl) rfl rfl rfl rfl (.inr fun _ _ => (fun _ h => (Sats.keep [false, true] h :))) (fun b15 _ => ?_)
    refine ord_two ?_ ?_
    · skip
      refine ord_eff (eff_val (val_bytes_string (xs := [IntKind.u8.wrap (i : Int)]) rfl Try.underlying77 Try.underlying5 Try.underlying9 rfl (Ent.own 0 rfl) rfl)) rfl rfl rfl rfl (.inr fun _ _ => (fun _ h => (Sats.keep [false, true] h :))) (fun _ _ => ?_)
      refine ord_val rfl rfl rfl rfl (fun _ h => (Sats.keep [false, true] h :)) (val_str_add rfl rfl rfl (by rw [strOfNums_size, List.length_singleton]; omega)) ?_
      refine ord_eff (eff_callx rfl ⟨_, Try.func25, by kernel_rfl, rfl⟩ rfl (fun E w s => law17_keys_c s)) rfl rfl rfl rfl (.inr fun _ _ => (fun _ h => (Sats.keep [false, false, true] h :))) (fun q22 _ => ?_)
      refine ord_val rfl rfl rfl rfl (fun _ h => (Sats.keep [false, false, true] h :)) (val_build (z := [.string ⟨#[]⟩, .int .u64 0, .string ⟨#[]⟩, .slice none 0 0]) [(0, 1), (1, 1), (2, 1), (3, 1)] rfl Try.underlying36 (by kernel_rfl) (by kernel_rfl) rfl rfl rfl) ?_
      refine ord_eff0 (eff_storeW 2 rfl rfl rfl rfl rfl (by kernel_rfl) rfl rfl rfl) rfl rfl rfl (.inl rfl) (fun _ _ => ?_)
      refine ord_nil ?_
      refine thru_on ?_
      refine pk_ret ?_
      refine ret1c rfl Try.underlying36 rfl (by kernel_rfl) rfl (Ent.pure rfl) ((Ent.own 2 rfl)) fun w s => ⟨(q22.1, q22.2), trivial, rfl, s.to (fun _ h => Sats.keep [true, false, false] h)⟩
    · skip
      refine ord_eff (eff_callx rfl ⟨_, Try.func25, by kernel_rfl, rfl⟩ rfl (fun E w s => law17_keys_c s)) rfl rfl rfl rfl (.inr fun _ _ => (fun _ h => (Sats.keep [false, false, true] h :))) (fun q22 _ => ?_)
      refine ord_eff (eff_val (val_bytes_string (xs := [IntKind.u8.wrap (i : Int)]) rfl Try.underlying77 Try.underlying5 Try.underlying9 rfl (Ent.own 1 rfl) rfl)) rfl rfl rfl rfl (.inr fun _ _ => (fun _ h => (Sats.keep [false, false, true] h :))) (fun _ _ => ?_)
      refine ord_val rfl rfl rfl rfl (fun _ h => (Sats.keep [false, false, true] h :)) (val_str_add rfl rfl rfl (by rw [strOfNums_size, List.length_singleton]; omega)) ?_
      refine ord_val rfl rfl rfl rfl (fun _ h => (Sats.keep [false, false, true] h :)) (val_build (z := [.string ⟨#[]⟩, .int .u64 0, .string ⟨#[]⟩, .slice none 0 0]) [(0, 1), (1, 1), (2, 1), (3, 1)] rfl Try.underlying36 (by kernel_rfl) (by kernel_rfl) rfl rfl rfl) ?_
      refine ord_eff0 (eff_storeW 2 rfl rfl rfl rfl rfl (by kernel_rfl) rfl rfl rfl) rfl rfl rfl (.inl rfl) (fun _ _ => ?_)
      refine ord_nil ?_
      refine thru_on ?_
      refine pk_ret ?_
      refine ret1c rfl Try.underlying36 rfl (by kernel_rfl) rfl (Ent.pure rfl) ((Ent.own 2 rfl)) fun w s => ⟨(q22.1, q22.2), trivial, rfl, s.to (fun _ h => Sats.keep [true, false, false] h)⟩
  · skip
    refine ord_eff (eff_callx rfl ⟨_, Try.func25, by kernel_rfl, rfl⟩ rfl (fun E w s => law17_keys_c s)) rfl rfl rfl rfl (.inr fun _ _ => (fun _ h => (Sats.keep [false, true] h :))) (fun q22 _ => ?_)
    refine ord_eff (eff_buildSlice (len := 1) (sz := 1) (z := #[.int .u8 0]) rfl Try.underlying77 (by kernel_rfl) rfl rfl rfl (by decide) (by decide) rfl rfl) rfl rfl rfl rfl (.inr fun _ _ => (fun _ h => (Sats.keep [false, false, true] h :))) (fun b15 _ => ?_)
    refine ord_eff (eff_val (val_bytes_string (xs := [IntKind.u8.wrap (i : Int)]) rfl Try.underlying77 Try.underlying5 Try.underlying9 rfl (Ent.own 0 rfl) rfl)) rfl rfl rfl rfl (.inr fun _ _ => (fun _ h => (Sats.keep [false, false, true] h :))) (fun _ _ => ?_)
    refine ord_val rfl rfl rfl rfl (fun _ h => (Sats.keep [false, false, true] h :)) (val_str_add rfl rfl rfl (by rw [strOfNums_size, List.length_singleton]; omega)) ?_
    refine ord_val rfl rfl rfl rfl (fun _ h => (Sats.keep [false, false, true] h :)) (val_build (z := [.string ⟨#[]⟩, .int .u64 0, .string ⟨#[]⟩, .slice none 0 0]) [(0, 1), (1, 1), (2, 1), (3, 1)] rfl Try.underlying36 (by kernel_rfl) (by kernel_rfl) rfl rfl rfl) ?_
    refine ord_eff0 (eff_storeW 2 rfl rfl rfl rfl rfl (by kernel_rfl) rfl rfl rfl) rfl rfl rfl (.inl rfl) (fun _ _ => ?_)
    refine ord_nil ?_
    refine thru_on ?_
    refine pk_ret ?_
    refine ret1c rfl Try.underlying36 rfl (by kernel_rfl) rfl (Ent.pure rfl) ((Ent.own 2 rfl)) fun w s => ⟨(q22.1, q22.2), trivial, rfl, s.to (fun _ h => Sats.keep [false, true, false] h)⟩
end Go.Proofs.Ytdpckendkklfdaa
