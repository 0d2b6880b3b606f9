/- The walks that package shard reaches, second part: Hash, of, cmp.Compare, BinarySearchFunc. -/
import Derived.Test.YtdpckendkklfdaaShA
set_option linter.unusedVariables false
set_option linter.unusedSimpArgs false
set_option maxRecDepth 100000
namespace Go.Proofs.Ytdpckendkklfdaa
open Go.RowKit Go.Proofs.Eng
def feedB (z : Int) (l : List UInt8) : Int := l.foldl (fun z b => IntKind.u64.wrap (IntKind.u64.wrap (BitVec.ofInt IntKind.u64.bits z ^^^ BitVec.ofInt IntKind.u64.bits ((b.toNat : Nat) : Int)).toNat * 1099511628211)) z
def hashB (s : ByteArray) : Int := feedB 14695981039346656037 s.data.toList
theorem wrap_nonneg (z : Int) : 0 ≤ IntKind.u64.wrap z ∧ IntKind.u64.wrap z < 18446744073709551616 := by
  simp only [IntKind.wrap, IntKind.bits, IntKind.signed]
  constructor
  · simp; omega
  · simp; omega
theorem feedB_nonneg : ∀ (l : List UInt8) (z : Int), 0 ≤ z → 0 ≤ feedB z l
  | [], z, h => h
  | b :: r, z, _ => feedB_nonneg r _ (wrap_nonneg _).1
theorem hashB_nonneg (s : ByteArray) : 0 ≤ hashB s := feedB_nonneg _ _ (by decide)
theorem feedB_take (z : Int) (l : List UInt8) {k : Nat} (h : k < l.length) : feedB z (l.take (k + 1)) = IntKind.u64.wrap (IntKind.u64.wrap (BitVec.ofInt IntKind.u64.bits (feedB z (l.take k)) ^^^ BitVec.ofInt IntKind.u64.bits (((l.getD k 0).toNat : Nat) : Int)).toNat * 1099511628211) := by
  rw [List.take_succ_eq_append_getElem h, feedB, List.foldl_append]
  simp [feedB, h]
def ofN (s : ByteArray) (p : Nat) : Nat := (hashB s % (p : Int)).toNat
theorem ofN_lt (s : ByteArray) {p : Nat} (h : 0 < p) : ofN s p < p := by
  have h1 := Int.emod_nonneg (hashB s) (show (p : Int) ≠ 0 by omega)
  have h2 := Int.emod_lt_of_pos (hashB s) (show (0 : Int) < (p : Int) by omega)
  unfold ofN; omega
theorem ofN_eq (s : ByteArray) {p : Nat} (h : 0 < p) : ((ofN s p : Nat) : Int) = hashB s % (p : Int) := by
  have h1 := Int.emod_nonneg (hashB s) (show (p : Int) ≠ 0 by omega)
  unfold ofN; omega
theorem u8_fit (b : UInt8) : IntKind.u64.wrap ((b.toNat : Nat) : Int) = ((b.toNat : Nat) : Int) := by
  have := b.toNat_lt
  exact wrap_u64 (by omega)
theorem sum_Begin_c {E w : World} {L : List Ch} (s : Sat E w L) : Calls Try.prog 81 #[] w (Gives E (.int .u64 14695981039346656037) L) := by
  refine enter (vs := []) Try.func81 rfl Try.ntmps81 rfl s ?_
  refine pk_seq ?_
  refine pk_region ?_
  refine pk_val rfl rfl rfl (val_assign rfl rfl) ?_
  refine pk_nil ?_
  refine thru_on ?_
  refine pk_seq ?_
  refine pk_region ?_
  refine pk_val rfl rfl rfl (val_assign rfl rfl) ?_
  refine pk_nil ?_
  refine thru_on ?_
  refine pk_ret ?_
  refine ret1 rfl rfl fun w s => ⟨rfl, s⟩
theorem sum_Feed_c {E w : World} {L : List Ch} {z : Int} {x : ByteArray} (s : Sat E w L) (hx : x.size ≤ 4611686018427387904) :
    Calls Try.prog 80 #[.int .u64 z, .string x] w (Gives E (.int .u64 (feedB z x.data.toList)) L) := by
  refine enter (vs := [_, _]) Try.func80 rfl Try.ntmps80 rfl s ?_
  refine pk_seq ?_
  refine pk_region ?_
  refine pk_val rfl rfl rfl (val_assign rfl rfl) ?_
  refine pk_nil ?_
  refine thru_on ?_
  refine pk_seq ?_
  refine pk_seq ?_
  refine pk_region ?_
  refine pk_val rfl rfl rfl (val_move rfl rfl) ?_
  refine pk_val rfl rfl rfl (val_len_string rfl Try.underlying9 rfl) ?_
  refine pk_val rfl rfl rfl (val_move rfl rfl) ?_
  refine pk_nil ?_
  refine thru_on ?_
  refine pk_block ?_
  refine pk_loop (α := Nat) (0) (fun k => [(0, .int .u64 (feedB z (x.data.toList.take k))), (1, .string x), (7, .int .i64 (x.size : Nat)), (8, .int .i64 (k : Nat))]) (fun k => L) (fun k => k ≤ x.size) (fun k => x.size - k) ?_ ?_ ?_ ?_
  · (try dsimp only) <;> exact Nat.zero_le _
  · exact ⟨(Sub.cons rfl (by first | rfl | (congr 1; omega) | simp) (Sub.cons rfl (by first | rfl | (congr 1; omega) | simp) (Sub.cons rfl (by first | rfl | (congr 1; omega) | simp) (Sub.cons rfl (by first | rfl | (congr 1; omega) | simp) (Sub.nil _))))), rfl⟩
  · exact (fun _ h => h)
  rintro k hk0
  have hxl : x.data.toList.length = x.size := by rw [Array.length_toList]; rfl
  refine pk_seq ?_
  refine pk_region ?_
  refine pk_val rfl rfl rfl (val_lss rfl rfl rfl) ?_
  refine pk_nil ?_
  refine thru_on ?_
  refine pk_seq ?_
  refine pk_if rfl (fun h => ?_) (fun h => ?_)
  · skip
    refine pk_skip ?_
    refine thru_on ?_
    have hk : k < x.size := by omega
    refine pk_seq ?_
    refine pk_block ?_
    refine pk_seq ?_
    refine pk_region ?_
    refine pk_val rfl rfl rfl (val_move rfl rfl) ?_
    refine pk_val rfl rfl rfl (val_assign rfl rfl) ?_
    refine pk_nil ?_
    refine thru_on ?_
    refine pk_seq ?_
    refine pk_region ?_
    refine pk_val rfl rfl rfl (val_move rfl rfl) ?_
    refine pk_val rfl rfl rfl (val_move rfl rfl) ?_
    refine pk_val rfl rfl rfl (val_move rfl rfl) ?_
    refine pk_val rfl rfl rfl (val_index_string rfl Try.underlying9 rfl rfl k rfl hk) ?_
    refine pk_val rfl rfl rfl (val_conv_fit rfl Try.underlying5 Try.underlying30 rfl (u8_fit _)) ?_
    refine pk_val rfl rfl rfl (val_xorw rfl rfl rfl) ?_
    refine pk_val rfl rfl rfl (val_assign rfl rfl) ?_
    refine pk_nil ?_
    refine thru_on ?_
    refine pk_region ?_
    refine pk_val rfl rfl rfl (val_move rfl rfl) ?_
    refine pk_val rfl rfl rfl (val_mulw rfl rfl rfl) ?_
    refine pk_val rfl rfl rfl (val_assign rfl rfl) ?_
    refine pk_nil ?_
    refine in_on ?_
    refine thru_on ?_
    refine pk_region ?_
    refine pk_val rfl rfl rfl (val_add rfl rfl rfl (by omega)) ?_
    refine pk_val rfl rfl rfl (val_move rfl rfl) ?_
    refine pk_nil ?_
    refine thru_on ?_
    refine pk_next (x := k) (k + 1) ?_ ?_ ?_ ?_
    · (try dsimp only) <;> exact hk
    · (try dsimp only); exact (by omega)
    · exact ⟨(Sub.cons rfl (by rw [feedB_take _ _ (by omega)]) (Sub.cons rfl (by first | rfl | (congr 1; omega) | simp) (Sub.cons rfl (by first | rfl | (congr 1; omega) | simp) (Sub.cons rfl (by first | rfl | (congr 1; omega) | simp) (Sub.nil _))))), rfl⟩
    · exact (fun _ h => h)
  · skip
    refine pk_exit ?_
    refine thru ?_
    refine thru ?_
    refine pk_here ?_
    refine thru_on ?_
    refine pk_seq ?_
    refine pk_region ?_
    refine pk_val rfl rfl rfl (val_move rfl rfl) ?_
    refine pk_val rfl rfl rfl (val_assign rfl rfl) ?_
    refine pk_nil ?_
    refine thru_on ?_
    refine pk_ret ?_
    have hkk : k = x.size := by omega
    refine ret1 rfl rfl fun w s => ⟨?_, s⟩
    rw [List.take_of_length_le (by omega)]
theorem sum_Hash_c {E w : World} {L : List Ch} {x : ByteArray} (s : Sat E w L) (hx : x.size ≤ 4611686018427387904) : Calls Try.prog 62 #[.string x] w (Gives E (.int .u64 (hashB x)) L) := by
  refine enter (vs := [_]) Try.func62 rfl Try.ntmps62 rfl s ?_
  refine pk_seq ?_
  refine pk_region ?_
  refine pk_val rfl rfl rfl (val_assign rfl rfl) ?_
  refine pk_nil ?_
  refine thru_on ?_
  refine pk_seq ?_
  refine pk_region ?_
  refine pk_eff (eff_call1 rfl ⟨_, Try.func81, by kernel_rfl, rfl⟩ rfl (fun E w s => sum_Begin_c s)) rfl rfl rfl (fun _ _ => ?_)
  refine pk_val rfl rfl rfl (val_move rfl rfl) ?_
  refine pk_eff (eff_call1 rfl ⟨_, Try.func80, by kernel_rfl, rfl⟩ rfl (fun E w s => sum_Feed_c s hx)) rfl rfl rfl (fun _ _ => ?_)
  refine pk_val rfl rfl rfl (val_assign rfl rfl) ?_
  refine pk_nil ?_
  refine thru_on ?_
  refine pk_ret ?_
  refine ret1 rfl rfl fun w s => ⟨rfl, s⟩
theorem shard_of_c {E w : World} {L : List Ch} {x : ByteArray} {p : Nat} (s : Sat E w L) (hx : x.size ≤ 4611686018427387904) (hp : 0 < p) (hp2 : p ≤ 1000000) : Calls Try.prog 37 #[.string x, .int .i64 (p : Nat)] w (Gives E (.int .i64 (ofN x p : Nat)) L) := by
  refine enter (vs := [_, _]) Try.func37 rfl Try.ntmps37 rfl s ?_
  have hlt := ofN_lt x hp
  refine pk_seq ?_
  refine pk_region ?_
  refine pk_val rfl rfl rfl (val_assign rfl rfl) ?_
  refine pk_nil ?_
  refine thru_on ?_
  refine pk_seq ?_
  refine pk_region ?_
  refine pk_val rfl rfl rfl (val_move rfl rfl) ?_
  refine pk_eff (eff_call1 rfl ⟨_, Try.func62, by kernel_rfl, rfl⟩ rfl (fun E w s => sum_Hash_c s hx)) rfl rfl rfl (fun _ _ => ?_)
  refine pk_val rfl rfl rfl (val_move rfl rfl) ?_
  refine pk_val rfl rfl rfl (val_conv_fit rfl Try.underlying3 Try.underlying30 rfl (by simp [IntKind.wrap, IntKind.bits, IntKind.signed]; omega)) ?_
  refine pk_val rfl rfl rfl (val_rem rfl rfl rfl (hashB_nonneg x) (by omega)) ?_
  refine Pk.slot 9 (v := .int .u64 (ofN x p : Nat)) rfl (by rw [ofN_eq x hp]) ?_
  refine pk_val rfl rfl rfl (val_conv_fit rfl Try.underlying30 Try.underlying3 rfl (by simp [IntKind.wrap, IntKind.bits, IntKind.signed]; omega)) ?_
  refine pk_val rfl rfl rfl (val_assign rfl rfl) ?_
  refine pk_nil ?_
  refine thru_on ?_
  refine pk_ret ?_
  refine ret1 rfl rfl fun w s => ⟨rfl, s⟩
def mayP (p : Int) : Bool := decide (1 ≤ p) && decide (p ≤ 64)
theorem shard_may_c {E w : World} {L : List Ch} {p : Int} (s : Sat E w L) : Calls Try.prog 36 #[.int .i64 p] w (Gives E (.bool (mayP p)) L) := by
  refine enter (vs := [_]) Try.func36 rfl Try.ntmps36 rfl s ?_
  refine pk_seq ?_
  refine pk_region ?_
  refine pk_val rfl rfl rfl (val_assign rfl rfl) ?_
  refine pk_nil ?_
  refine thru_on ?_
  refine pk_seq ?_
  refine pk_region ?_
  refine pk_val rfl rfl rfl (val_move rfl rfl) ?_
  refine pk_val rfl rfl rfl (val_geq rfl rfl rfl) ?_
  refine pk_val rfl rfl rfl (val_move rfl rfl) ?_
  by_cases h : 1 ≤ p
  · skip
    refine Pk.slot 5 (v := .bool true) rfl (congrArg Value.bool (decide_eq_true h)) ?_
    refine pk_guard_yes rfl rfl rfl ?_
    refine pk_val rfl rfl rfl (val_move rfl rfl) ?_
    refine pk_guard_yes rfl rfl rfl ?_
    refine pk_val rfl rfl rfl (val_leq rfl rfl rfl) ?_
    refine pk_val rfl rfl rfl (val_pick rfl rfl rfl rfl) ?_
    refine pk_val rfl rfl rfl (val_assign rfl rfl) ?_
    refine pk_nil ?_
    refine thru_on ?_
    refine pk_ret ?_
    refine ret1 rfl rfl fun w s => ⟨?_, s⟩
    have e : mayP p = decide (p ≤ 64) := by rw [mayP, decide_eq_true h, Bool.true_and]
    rw [e]; rfl
  · skip
    refine Pk.slot 5 (v := .bool false) rfl (congrArg Value.bool (decide_eq_false h)) ?_
    refine pk_guard_no rfl rfl rfl rfl rfl rfl ?_
    refine pk_guard_no rfl rfl rfl rfl rfl rfl ?_
    refine pk_val rfl rfl rfl (val_pick rfl rfl rfl rfl) ?_
    refine pk_val rfl rfl rfl (val_assign rfl rfl) ?_
    refine pk_nil ?_
    refine thru_on ?_
    refine pk_ret ?_
    refine ret1 rfl rfl fun w s => ⟨?_, s⟩
    have e : mayP p = false := by rw [mayP, decide_eq_false h, Bool.false_and]
    rw [e]; rfl
theorem shard_Of_c {E w : World} {L : List Ch} {x : ByteArray} {p : Nat} (s : Sat E w L) (hx : x.size ≤ 4611686018427387904) (hm : mayP (p : Int) = true) : Calls Try.prog 45 #[.string x, .int .i64 (p : Nat)] w (Gives E (.tuple #[.int .i64 (ofN x p : Nat), .int .i64 0]) L) := by
  refine enter (vs := [_, _]) Try.func45 rfl Try.ntmps45 rfl s ?_
  have hp : 1 ≤ p ∧ p ≤ 64 := by simp only [mayP, Bool.and_eq_true, decide_eq_true_eq] at hm; omega
  refine pk_seq ?_
  refine pk_region ?_
  refine pk_val rfl rfl rfl (val_assign rfl rfl) ?_
  refine pk_val rfl rfl rfl (val_assign rfl rfl) ?_
  refine pk_nil ?_
  refine thru_on ?_
  refine pk_seq ?_
  refine pk_seq ?_
  refine pk_region ?_
  refine pk_val rfl rfl rfl (val_move rfl rfl) ?_
  refine pk_eff (eff_call1 rfl ⟨_, Try.func36, by kernel_rfl, rfl⟩ rfl (fun E w s => shard_may_c s)) rfl rfl rfl (fun _ _ => ?_)
  refine pk_val rfl rfl rfl (val_not rfl rfl) ?_
  refine pk_nil ?_
  refine thru_on ?_
  refine pk_ifn rfl (fun h => ?_) (fun h => ?_)
  · skip
    refine pk_seq ?_
    refine pk_region ?_
    refine pk_val rfl rfl rfl (val_assign rfl rfl) ?_
    refine pk_val rfl rfl rfl (val_assign rfl rfl) ?_
    refine pk_nil ?_
    refine thru_on ?_
    refine pk_ret ?_
    refine thru_ret ?_
    rw [hm] at h; cases h
  · skip
    refine pk_skip ?_
    refine thru_on ?_
    refine pk_seq ?_
    refine pk_region ?_
    refine pk_val rfl rfl rfl (val_move rfl rfl) ?_
    refine pk_val rfl rfl rfl (val_move rfl rfl) ?_
    refine pk_eff (eff_call1 rfl ⟨_, Try.func37, by kernel_rfl, rfl⟩ rfl (fun E w s => shard_of_c s hx (by omega) (by omega))) rfl rfl rfl (fun _ _ => ?_)
    refine pk_val rfl rfl rfl (val_assign rfl rfl) ?_
    refine pk_val rfl rfl rfl (val_assign rfl rfl) ?_
    refine pk_nil ?_
    refine thru_on ?_
    refine pk_ret ?_
    refine ret2 rfl rfl rfl fun w s => ⟨rfl, s⟩
def cmpZ (x y : Int) : Int := if x < y then -1 else if y < x then 1 else 0
theorem isNaN_int_c {E w : World} {L : List Ch} {x : Int} (s : Sat E w L) : Calls Try.prog 63 #[.int .i64 x] w (Gives E (.bool false) L) := by
  refine enter (vs := [_]) Try.func63 rfl Try.ntmps63 rfl s ?_
  refine pk_seq ?_
  refine pk_region ?_
  refine pk_val rfl rfl rfl (val_assign rfl rfl) ?_
  refine pk_nil ?_
  refine thru_on ?_
  refine pk_seq ?_
  refine pk_region ?_
  refine pk_val rfl rfl rfl (val_move rfl rfl) ?_
  refine pk_val rfl rfl rfl (val_move rfl rfl) ?_
  refine pk_val rfl rfl rfl (val_neq rfl rfl rfl) ?_
  refine pk_val rfl rfl rfl (val_assign rfl rfl) ?_
  refine pk_nil ?_
  refine thru_on ?_
  refine pk_ret ?_
  refine ret1 rfl rfl fun w s => ⟨?_, s⟩
  exact congrArg Ending.returned (congrArg Value.bool (decide_eq_false (fun h => h rfl)))
theorem cmp_Compare_int_c {E w : World} {L : List Ch} {x y : Int} (s : Sat E w L) : Calls Try.prog 40 #[.int .i64 x, .int .i64 y] w (Gives E (.int .i64 (cmpZ x y)) L) := by
  refine enter (vs := [_, _]) Try.func40 rfl Try.ntmps40 rfl s ?_
  refine pk_seq ?_
  refine pk_region ?_
  refine pk_val rfl rfl rfl (val_assign rfl rfl) ?_
  refine pk_nil ?_
  refine thru_on ?_
  refine pk_seq ?_
  refine pk_region ?_
  refine pk_val rfl rfl rfl (val_move rfl rfl) ?_
  refine pk_eff (eff_call1 rfl ⟨_, Try.func63, by kernel_rfl, rfl⟩ rfl (fun E w s => isNaN_int_c s)) rfl rfl rfl (fun _ _ => ?_)
  refine pk_val rfl rfl rfl (val_assign rfl rfl) ?_
  refine pk_nil ?_
  refine thru_on ?_
  refine pk_seq ?_
  refine pk_region ?_
  refine pk_val rfl rfl rfl (val_move rfl rfl) ?_
  refine pk_eff (eff_call1 rfl ⟨_, Try.func63, by kernel_rfl, rfl⟩ rfl (fun E w s => isNaN_int_c s)) rfl rfl rfl (fun _ _ => ?_)
  refine pk_val rfl rfl rfl (val_assign rfl rfl) ?_
  refine pk_nil ?_
  refine thru_on ?_
  refine pk_seq ?_
  refine pk_seq ?_
  refine pk_region ?_
  refine pk_val rfl rfl rfl (val_move rfl rfl) ?_
  refine pk_nil ?_
  refine thru_on ?_
  refine pk_cond_f rfl ?_
  refine pk_skip ?_
  refine thru_on ?_
  refine pk_seq ?_
  refine pk_seq ?_
  refine pk_region ?_
  refine pk_val rfl rfl rfl (val_move rfl rfl) ?_
  refine pk_nil ?_
  refine thru_on ?_
  refine pk_cond_f rfl ?_
  refine pk_skip ?_
  refine thru_on ?_
  refine pk_seq ?_
  refine pk_seq ?_
  refine pk_region ?_
  refine pk_val rfl rfl rfl (val_move rfl rfl) ?_
  refine pk_val rfl rfl rfl (val_move rfl rfl) ?_
  refine pk_val rfl rfl rfl (val_lss rfl rfl rfl) ?_
  refine pk_nil ?_
  refine thru_on ?_
  refine pk_if rfl (fun h1 => ?_) (fun h1 => ?_)
  · skip
    refine pk_seq ?_
    refine pk_region ?_
    refine pk_val rfl rfl rfl (val_assign rfl rfl) ?_
    refine pk_nil ?_
    refine thru_on ?_
    refine pk_ret ?_
    refine thru_ret ?_
    refine ret1 rfl rfl fun w s => ⟨?_, s⟩
    rw [cmpZ, if_pos h1]
  · skip
    refine pk_skip ?_
    refine thru_on ?_
    refine pk_seq ?_
    refine pk_seq ?_
    refine pk_region ?_
    refine pk_val rfl rfl rfl (val_move rfl rfl) ?_
    refine pk_val rfl rfl rfl (val_move rfl rfl) ?_
    refine pk_val rfl rfl rfl (val_gtr rfl rfl rfl) ?_
    refine pk_nil ?_
    refine thru_on ?_
    refine pk_if rfl (fun h2 => ?_) (fun h2 => ?_)
    · skip
      refine pk_seq ?_
      refine pk_region ?_
      refine pk_val rfl rfl rfl (val_assign rfl rfl) ?_
      refine pk_nil ?_
      refine thru_on ?_
      refine pk_ret ?_
      refine thru_ret ?_
      refine ret1 rfl rfl fun w s => ⟨?_, s⟩
      rw [cmpZ, if_neg h1, if_pos h2]
    · skip
      refine pk_skip ?_
      refine thru_on ?_
      refine pk_seq ?_
      refine pk_region ?_
      refine pk_val rfl rfl rfl (val_assign rfl rfl) ?_
      refine pk_nil ?_
      refine thru_on ?_
      refine pk_ret ?_
      refine ret1 rfl rfl fun w s => ⟨?_, s⟩
      rw [cmpZ, if_neg h1, if_neg h2]
/-- the search, as it runs: a row of places before which lt says yes -/
def bsF (lt : Nat → Bool) : Nat → Nat → Nat → Nat
  | 0, i, _ => i
  | f + 1, i, j => if i < j then (if lt ((i + j) / 2) = true then bsF lt f ((i + j) / 2 + 1) j else bsF lt f i ((i + j) / 2)) else i
theorem bsF_fuel (lt : Nat → Bool) : ∀ (f i j : Nat), j - i ≤ f → bsF lt f i j = bsF lt (j - i) i j
  | f, i, j, h => by
    induction f using Nat.strongRecOn generalizing i j with
    | _ f ih =>
      cases f with
      | zero => rw [show j - i = 0 by omega]
      | succ f =>
        by_cases hij : i < j
        · obtain ⟨d, hd⟩ : ∃ d, j - i = d + 1 := ⟨j - i - 1, by omega⟩
          rw [hd, bsF, bsF, if_pos hij, if_pos hij]
          split
          · rw [ih f (by omega) _ _ (by omega), ih d (by omega) _ _ (by omega)]
          · rw [ih f (by omega) _ _ (by omega), ih d (by omega) _ _ (by omega)]
        · rw [show j - i = 0 by omega, bsF, bsF, if_neg hij]
theorem bsF_step (lt : Nat → Bool) {i j : Nat} (h : i < j) : bsF lt (j - i) i j = if lt ((i + j) / 2) = true then bsF lt (j - ((i + j) / 2 + 1)) ((i + j) / 2 + 1) j else bsF lt ((i + j) / 2 - i) i ((i + j) / 2) := by
  obtain ⟨d, hd⟩ : ∃ d, j - i = d + 1 := ⟨j - i - 1, by omega⟩
  rw [hd, bsF, if_pos h, bsF_fuel lt d _ _ (by omega), bsF_fuel lt d _ _ (by omega)]
theorem bsF_done (lt : Nat → Bool) {i j : Nat} (h : ¬ i < j) : bsF lt (j - i) i j = i := by rw [show j - i = 0 by omega]; rfl
theorem bsF_le (lt : Nat → Bool) : ∀ (f i j : Nat), i ≤ j → bsF lt f i j ≤ j
  | 0, i, j, h => h
  | f + 1, i, j, h => by
    rw [bsF]
    split
    · split
      · exact bsF_le lt f _ _ (by omega)
      · exact Nat.le_trans (bsF_le lt f _ _ (by omega)) (by omega)
    · exact h
/-- a part: its number, and its list as it lies in memory -/
def cells2 : Int × Value → List Value := fun p => [.int .i64 p.1, p.2]
theorem cells2_len (p : Int × Value) : (cells2 p).length = 2 := rfl
def dE : Int × Value := (0, undef)
def bsI (es : List Int) (p : Int) : Nat := bsF (fun h => decide (es.getD h 0 < p)) es.length 0 es.length
def bsB (es : List Int) (p : Int) : Bool := decide (bsI es p < es.length) && decide (es.getD (bsI es p) 0 = p)
theorem bsI_le (es : List Int) (p : Int) : bsI es p ≤ es.length := bsF_le _ _ _ _ (Nat.zero_le _)
theorem cmpZ_neg (x y : Int) : decide (cmpZ x y < 0) = decide (x < y) := by
  unfold cmpZ
  split
  · rename_i h; simp [h]
  · rename_i h
    split <;> simp [h]
theorem cmpZ_zero (x y : Int) : decide (cmpZ x y = 0) = decide (x = y) := by
  unfold cmpZ
  split
  · have : ¬ x = y := by omega
    simp [this]
  · split
    · have : ¬ x = y := by omega
      simp [this]
    · have : x = y := by omega
      simp [this]
theorem fst_getD (es : List (Int × Value)) (k : Nat) : (es.map (·.1)).getD k 0 = (es.getD k dE).1 := by
  by_cases h : k < es.length <;> simp [h, dE]
theorem Part_less_c {E w : World} {L : List Ch} {e : Int × Value} {p : Int} (s : Sat E w L) : Calls Try.prog 39 #[.agg (cells2 e).toArray, .int .i64 p] w (Gives E (.int .i64 (cmpZ e.1 p)) L) := by
  refine enter (vs := [_, _]) Try.func39 rfl Try.ntmps39 rfl s ?_
  refine pk_seq ?_
  refine pk_region ?_
  refine pk_eff (eff_box rfl rfl rfl) rfl rfl rfl (fun b2 _ => ?_)
  refine pk_val rfl rfl rfl (val_assign rfl rfl) ?_
  refine pk_nil ?_
  refine thru_on ?_
  refine pk_seq ?_
  refine pk_region ?_
  refine pk_val rfl rfl rfl (val_fieldAddr rfl Try.underlying57 0 1 (by kernel_rfl) (by decide) rfl (Ent.pure rfl)) ?_
  refine pk_val rfl rfl rfl (val_load rfl Try.underlying3 rfl rfl ((Ent.own 0 rfl).rd rfl)) ?_
  refine pk_val rfl rfl rfl (val_move rfl rfl) ?_
  refine pk_eff (eff_call1 rfl ⟨_, Try.func40, by kernel_rfl, rfl⟩ rfl (fun E w s => cmp_Compare_int_c s)) rfl rfl rfl (fun _ _ => ?_)
  refine pk_val rfl rfl rfl (val_assign rfl rfl) ?_
  refine pk_nil ?_
  refine thru_on ?_
  refine pk_ret ?_
  refine ret1 rfl rfl fun w s => ⟨rfl, s.to (fun _ h => Sats.keep [false] h)⟩
theorem BSearch_Part_c {E w : World} {L : List Ch} {A : Option Addr} {c : Nat} {n : Nat} {es : List (Int × Value)} {p : Int} (s : Sat E w L) (hr : Ent L (RdL A (es.flatMap cells2))) (hn0 : es.length = n) (hn : es.length ≤ 4611686018427387904) :
    Calls Try.prog 38 #[.slice A n c, .int .i64 p, .func (.func 39) #[] #[]] w (Gives E (.tuple #[.int .i64 (bsI (es.map (·.1)) p : Nat), .bool (bsB (es.map (·.1)) p)]) L) := by
  subst hn0
  refine enter (vs := [_, _, _]) Try.func38 rfl Try.ntmps38 rfl s ?_
  obtain ⟨lt, hlt⟩ : ∃ lt : Nat → Bool, lt = fun h => decide ((es.map (·.1)).getD h 0 < p) := ⟨_, rfl⟩
  have hbs : bsI (es.map (·.1)) p = bsF lt (es.length - 0) 0 es.length := by rw [bsI, hlt, List.length_map, Nat.sub_zero]
  have hle := bsI_le (es.map (·.1)) p
  rw [List.length_map] at hle
  refine pk_seq ?_
  refine pk_region ?_
  refine pk_val rfl rfl rfl (val_assign rfl rfl) ?_
  refine pk_val rfl rfl rfl (val_assign rfl rfl) ?_
  refine pk_nil ?_
  refine thru_on ?_
  refine pk_seq ?_
  refine pk_region ?_
  refine pk_val rfl rfl rfl (val_move rfl rfl) ?_
  refine pk_val rfl rfl rfl (val_len_slice rfl Try.underlying48 rfl) ?_
  refine pk_val rfl rfl rfl (val_assign rfl rfl) ?_
  refine pk_nil ?_
  refine thru_on ?_
  refine pk_seq ?_
  refine pk_region ?_
  refine pk_val rfl rfl rfl (val_move rfl rfl) ?_
  refine pk_val rfl rfl rfl (val_assign rfl rfl) ?_
  refine pk_val rfl rfl rfl (val_assign rfl rfl) ?_
  refine pk_nil ?_
  refine thru_on ?_
  refine pk_seq ?_
  refine pk_block ?_
  refine pk_loop (α := Nat × Nat) ((0, es.length)) (fun y => [(0, .slice A es.length c), (1, .int .i64 p), (2, .func (.func 39) #[] #[]), (8, .int .i64 (es.length : Nat)), (9, .int .i64 (y.1 : Nat)), (10, .int .i64 (y.2 : Nat))]) (fun y => L) (fun y => y.1 ≤ y.2 ∧ y.2 ≤ es.length ∧ bsF lt (y.2 - y.1) y.1 y.2 = bsI (es.map (·.1)) p) (fun y => y.2 - y.1) ?_ ?_ ?_ ?_
  · (try dsimp only) <;> exact ⟨Nat.zero_le _, Nat.le_refl _, hbs.symm⟩
  · exact ⟨(Sub.cons rfl (by first | rfl | (congr 1; omega) | simp) (Sub.cons rfl (by first | rfl | (congr 1; omega) | simp) (Sub.cons rfl (by first | rfl | (congr 1; omega) | simp) (Sub.cons rfl (by first | rfl | (congr 1; omega) | simp) (Sub.cons rfl (by first | rfl | (congr 1; omega) | simp) (Sub.cons rfl (by first | rfl | (congr 1; omega) | simp) (Sub.nil _))))))), rfl⟩
  · exact (fun _ h => h)
  rintro ⟨i, j⟩ ⟨h1, h2, hI⟩
  dsimp only at h1 h2 hI ⊢
  refine pk_seq ?_
  refine pk_seq ?_
  refine pk_region ?_
  refine pk_val rfl rfl rfl (val_move rfl rfl) ?_
  refine pk_val rfl rfl rfl (val_move rfl rfl) ?_
  refine pk_val rfl rfl rfl (val_lss rfl rfl rfl) ?_
  refine pk_nil ?_
  refine thru_on ?_
  refine pk_if rfl (fun h3 => ?_) (fun h3 => ?_)
  · skip
    refine pk_skip ?_
    refine thru_on ?_
    refine pk_block ?_
    have hij : i < j := by omega
    have hh : (i + j) / 2 < es.length := by omega
    rw [bsF_step lt hij] at hI
    refine Pk.tells (hr.some_of (by rw [flat_length cells2_len]; omega)) fun hA => ?_
    refine pk_seq ?_
    refine pk_region ?_
    refine pk_val rfl rfl rfl (val_move rfl rfl) ?_
    refine pk_val rfl rfl rfl (val_move rfl rfl) ?_
    refine pk_val rfl rfl rfl (val_add rfl rfl rfl (by omega)) ?_
    refine pk_val rfl rfl rfl (val_conv_fit rfl Try.underlying3 Try.underlying118 rfl (by simp [IntKind.wrap, IntKind.bits, IntKind.signed]; omega)) ?_
    refine pk_val rfl rfl rfl (val_shr1 rfl rfl rfl) ?_
    refine pk_val rfl rfl rfl (val_conv_fit rfl Try.underlying118 Try.underlying3 rfl (by simp [IntKind.wrap, IntKind.bits, IntKind.signed]; omega)) ?_
    refine pk_val rfl rfl rfl (val_assign rfl rfl) ?_
    refine pk_nil ?_
    refine thru_on ?_
    refine pk_seq ?_
    refine pk_region ?_
    refine pk_val rfl rfl rfl (val_move rfl rfl) ?_
    refine pk_val rfl rfl rfl (val_move rfl rfl) ?_
    refine pk_val rfl rfl rfl (val_move rfl rfl) ?_
    refine pk_val rfl rfl rfl (val_indexAddr rfl Try.underlying48 2 (by kernel_rfl) rfl rfl ((i + j) / 2) (by omega) hh (Ent.pure hA)) ?_
    refine pk_val rfl rfl rfl (val_loads (vs := cells2 (es.getD ((i + j) / 2) dE)) rfl Try.underlying57 rfl (by kernel_rfl) rfl (Ent.pure hA) (hr.rds (flat_rds cells2_len dE hh))) ?_
    refine pk_val rfl rfl rfl (val_move rfl rfl) ?_
    refine pk_eff (eff_callv1 rfl rfl ⟨_, Try.func39, by kernel_rfl, rfl⟩ rfl (fun E w s => Part_less_c (e := es.getD ((i + j) / 2) dE) s)) rfl rfl rfl (fun _ _ => ?_)
    refine pk_val rfl rfl rfl (val_lss rfl rfl rfl) ?_
    refine pk_nil ?_
    refine thru_on ?_
    refine pk_if rfl (fun h4 => ?_) (fun h4 => ?_)
    · skip
      have hx : lt ((i + j) / 2) = true := by rw [hlt]; dsimp only; rw [fst_getD, ← cmpZ_neg]; exact decide_eq_true h4
      rw [if_pos hx] at hI
      refine pk_region ?_
      refine pk_val rfl rfl rfl (val_move rfl rfl) ?_
      refine pk_val rfl rfl rfl (val_add rfl rfl rfl (by omega)) ?_
      refine pk_val rfl rfl rfl (val_assign rfl rfl) ?_
      refine pk_nil ?_
      refine in_on ?_
      refine thru_on ?_
      refine pk_next (x := ⟨i, j⟩) (((i + j) / 2 + 1, j)) ?_ ?_ ?_ ?_
      · (try dsimp only) <;> exact ⟨by omega, h2, hI⟩
      · (try dsimp only); exact ((by omega))
      · exact ⟨(Sub.cons rfl (by first | rfl | (congr 1; omega) | simp) (Sub.cons rfl (by first | rfl | (congr 1; omega) | simp) (Sub.cons rfl (by first | rfl | (congr 1; omega) | simp) (Sub.cons rfl (by first | rfl | (congr 1; omega) | simp) (Sub.cons rfl (by first | rfl | (congr 1; omega) | simp) (Sub.cons rfl (by first | rfl | (congr 1; omega) | simp) (Sub.nil _))))))), rfl⟩
      · exact (fun _ h => h)
    · skip
      have hx : ¬ lt ((i + j) / 2) = true := by rw [hlt]; dsimp only; rw [fst_getD, ← cmpZ_neg]; simpa using h4
      rw [if_neg hx] at hI
      refine pk_region ?_
      refine pk_val rfl rfl rfl (val_move rfl rfl) ?_
      refine pk_val rfl rfl rfl (val_assign rfl rfl) ?_
      refine pk_nil ?_
      refine in_on ?_
      refine thru_on ?_
      refine pk_next (x := ⟨i, j⟩) ((i, (i + j) / 2)) ?_ ?_ ?_ ?_
      · (try dsimp only) <;> exact ⟨by omega, by omega, hI⟩
      · (try dsimp only); exact ((by omega))
      · exact ⟨(Sub.cons rfl (by first | rfl | (congr 1; omega) | simp) (Sub.cons rfl (by first | rfl | (congr 1; omega) | simp) (Sub.cons rfl (by first | rfl | (congr 1; omega) | simp) (Sub.cons rfl (by first | rfl | (congr 1; omega) | simp) (Sub.cons rfl (by first | rfl | (congr 1; omega) | simp) (Sub.cons rfl (by first | rfl | (congr 1; omega) | simp) (Sub.nil _))))))), rfl⟩
      · exact (fun _ h => h)
  · skip
    rw [bsF_done lt (by omega)] at hI
    rw [← hI]
    refine pk_exit ?_
    refine thru ?_
    refine thru ?_
    refine pk_here ?_
    refine thru_on ?_
    refine pk_seq ?_
    refine pk_region ?_
    refine pk_val rfl rfl rfl (val_move rfl rfl) ?_
    refine pk_val rfl rfl rfl (val_move rfl rfl) ?_
    refine pk_val rfl rfl rfl (val_move rfl rfl) ?_
    refine pk_val rfl rfl rfl (val_lss rfl rfl rfl) ?_
    refine pk_val rfl rfl rfl (val_move rfl rfl) ?_
    by_cases hlt2 : i < es.length
    · skip
      refine Pk.slot 39 (v := .bool true) rfl (congrArg Value.bool (decide_eq_true (by omega))) ?_
      refine Pk.tells (hr.some_of (by rw [flat_length cells2_len]; omega)) fun hA => ?_
      refine pk_guard_yes rfl rfl rfl ?_
      refine pk_val rfl rfl rfl (val_move rfl rfl) ?_
      refine pk_guard_yes rfl rfl rfl ?_
      refine pk_val rfl rfl rfl (val_move rfl rfl) ?_
      refine pk_guard_yes rfl rfl rfl ?_
      refine pk_val rfl rfl rfl (val_move rfl rfl) ?_
      refine pk_guard_yes rfl rfl rfl ?_
      refine pk_val rfl rfl rfl (val_indexAddr rfl Try.underlying48 2 (by kernel_rfl) rfl rfl i rfl hlt2 (Ent.pure hA)) ?_
      refine pk_guard_yes rfl rfl rfl ?_
      refine pk_val rfl rfl rfl (val_loads (vs := cells2 (es.getD i dE)) rfl Try.underlying57 rfl (by kernel_rfl) rfl (Ent.pure hA) (hr.rds (flat_rds cells2_len dE hlt2))) ?_
      refine pk_guard_yes rfl rfl rfl ?_
      refine pk_val rfl rfl rfl (val_move rfl rfl) ?_
      refine pk_guard_yes rfl rfl rfl ?_
      refine pk_eff (eff_callv1 rfl rfl ⟨_, Try.func39, by kernel_rfl, rfl⟩ rfl (fun E w s => Part_less_c (e := es.getD i dE) s)) rfl rfl rfl (fun _ _ => ?_)
      refine pk_guard_yes rfl rfl rfl ?_
      refine pk_val rfl rfl rfl (val_eql rfl rfl rfl) ?_
      refine pk_val rfl rfl rfl (val_pick rfl rfl rfl rfl) ?_
      refine pk_val rfl rfl rfl (val_assign rfl rfl) ?_
      refine pk_val rfl rfl rfl (val_assign rfl rfl) ?_
      refine pk_nil ?_
      refine thru_on ?_
      refine pk_ret ?_
      refine ret2 rfl rfl rfl fun w s => ⟨?_, s⟩
      have e : bsB (es.map (·.1)) p = decide (cmpZ (es.getD i dE).1 p = 0) := by rw [bsB, ← hI, List.length_map, decide_eq_true hlt2, Bool.true_and, fst_getD, cmpZ_zero]
      rw [e]; rfl
    · skip
      refine Pk.slot 39 (v := .bool false) rfl (congrArg Value.bool (decide_eq_false (by omega))) ?_
      refine pk_guard_no rfl rfl rfl rfl rfl rfl ?_
      refine pk_guard_no rfl rfl rfl rfl rfl rfl ?_
      refine pk_guard_no rfl rfl rfl rfl rfl rfl ?_
      refine pk_guard_no rfl rfl rfl rfl rfl rfl ?_
      refine pk_guard_no rfl rfl rfl rfl rfl rfl ?_
      refine pk_guard_no rfl rfl rfl rfl rfl rfl ?_
      refine pk_guard_no rfl rfl rfl rfl rfl rfl ?_
      refine pk_guard_no rfl rfl rfl rfl rfl rfl ?_
      refine pk_val rfl rfl rfl (val_pick rfl rfl rfl rfl) ?_
      refine pk_val rfl rfl rfl (val_assign rfl rfl) ?_
      refine pk_val rfl rfl rfl (val_assign rfl rfl) ?_
      refine pk_nil ?_
      refine thru_on ?_
      refine pk_ret ?_
      refine ret2 rfl rfl rfl fun w s => ⟨?_, s⟩
      have e : bsB (es.map (·.1)) p = false := by rw [bsB, ← hI, List.length_map, decide_eq_false hlt2, Bool.false_and]
      rw [e]; rfl
theorem PairPart_less_c {E w : World} {L : List Ch} {e : Int × Value} {p : Int} (s : Sat E w L) : Calls Try.prog 43 #[.agg (cells2 e).toArray, .int .i64 p] w (Gives E (.int .i64 (cmpZ e.1 p)) L) := by
  refine enter (vs := [_, _]) Try.func43 rfl Try.ntmps43 rfl s ?_
  refine pk_seq ?_
  refine pk_region ?_
  refine pk_eff (eff_box rfl rfl rfl) rfl rfl rfl (fun b2 _ => ?_)
  refine pk_val rfl rfl rfl (val_assign rfl rfl) ?_
  refine pk_nil ?_
  refine thru_on ?_
  refine pk_seq ?_
  refine pk_region ?_
  refine pk_val rfl rfl rfl (val_fieldAddr rfl Try.underlying59 0 1 (by kernel_rfl) (by decide) rfl (Ent.pure rfl)) ?_
  refine pk_val rfl rfl rfl (val_load rfl Try.underlying3 rfl rfl ((Ent.own 0 rfl).rd rfl)) ?_
  refine pk_val rfl rfl rfl (val_move rfl rfl) ?_
  refine pk_eff (eff_call1 rfl ⟨_, Try.func40, by kernel_rfl, rfl⟩ rfl (fun E w s => cmp_Compare_int_c s)) rfl rfl rfl (fun _ _ => ?_)
  refine pk_val rfl rfl rfl (val_assign rfl rfl) ?_
  refine pk_nil ?_
  refine thru_on ?_
  refine pk_ret ?_
  refine ret1 rfl rfl fun w s => ⟨rfl, s.to (fun _ h => Sats.keep [false] h)⟩
theorem BSearch_PairPart_c {E w : World} {L : List Ch} {A : Option Addr} {c : Nat} {n : Nat} {es : List (Int × Value)} {p : Int} (s : Sat E w L) (hr : Ent L (RdL A (es.flatMap cells2))) (hn0 : es.length = n) (hn : es.length ≤ 4611686018427387904) :
    Calls Try.prog 42 #[.slice A n c, .int .i64 p, .func (.func 43) #[] #[]] w (Gives E (.tuple #[.int .i64 (bsI (es.map (·.1)) p : Nat), .bool (bsB (es.map (·.1)) p)]) L) := by
  subst hn0
  refine enter (vs := [_, _, _]) Try.func42 rfl Try.ntmps42 rfl s ?_
  obtain ⟨lt, hlt⟩ : ∃ lt : Nat → Bool, lt = fun h => decide ((es.map (·.1)).getD h 0 < p) := ⟨_, rfl⟩
  have hbs : bsI (es.map (·.1)) p = bsF lt (es.length - 0) 0 es.length := by rw [bsI, hlt, List.length_map, Nat.sub_zero]
  have hle := bsI_le (es.map (·.1)) p
  rw [List.length_map] at hle
  refine pk_seq ?_
  refine pk_region ?_
  refine pk_val rfl rfl rfl (val_assign rfl rfl) ?_
  refine pk_val rfl rfl rfl (val_assign rfl rfl) ?_
  refine pk_nil ?_
  refine thru_on ?_
  refine pk_seq ?_
  refine pk_region ?_
  refine pk_val rfl rfl rfl (val_move rfl rfl) ?_
  refine pk_val rfl rfl rfl (val_len_slice rfl Try.underlying51 rfl) ?_
  refine pk_val rfl rfl rfl (val_assign rfl rfl) ?_
  refine pk_nil ?_
  refine thru_on ?_
  refine pk_seq ?_
  refine pk_region ?_
  refine pk_val rfl rfl rfl (val_move rfl rfl) ?_
  refine pk_val rfl rfl rfl (val_assign rfl rfl) ?_
  refine pk_val rfl rfl rfl (val_assign rfl rfl) ?_
  refine pk_nil ?_
  refine thru_on ?_
  refine pk_seq ?_
  refine pk_block ?_
  refine pk_loop (α := Nat × Nat) ((0, es.length)) (fun y => [(0, .slice A es.length c), (1, .int .i64 p), (2, .func (.func 43) #[] #[]), (8, .int .i64 (es.length : Nat)), (9, .int .i64 (y.1 : Nat)), (10, .int .i64 (y.2 : Nat))]) (fun y => L) (fun y => y.1 ≤ y.2 ∧ y.2 ≤ es.length ∧ bsF lt (y.2 - y.1) y.1 y.2 = bsI (es.map (·.1)) p) (fun y => y.2 - y.1) ?_ ?_ ?_ ?_
  · (try dsimp only) <;> exact ⟨Nat.zero_le _, Nat.le_refl _, hbs.symm⟩
  · exact ⟨(Sub.cons rfl (by first | rfl | (congr 1; omega) | simp) (Sub.cons rfl (by first | rfl | (congr 1; omega) | simp) (Sub.cons rfl (by first | rfl | (congr 1; omega) | simp) (Sub.cons rfl (by first | rfl | (congr 1; omega) | simp) (Sub.cons rfl (by first | rfl | (congr 1; omega) | simp) (Sub.cons rfl (by first | rfl | (congr 1; omega) | simp) (Sub.nil _))))))), rfl⟩
  · exact (fun _ h => h)
  rintro ⟨i, j⟩ ⟨h1, h2, hI⟩
  dsimp only at h1 h2 hI ⊢
  refine pk_seq ?_
  refine pk_seq ?_
  refine pk_region ?_
  refine pk_val rfl rfl rfl (val_move rfl rfl) ?_
  refine pk_val rfl rfl rfl (val_move rfl rfl) ?_
  refine pk_val rfl rfl rfl (val_lss rfl rfl rfl) ?_
  refine pk_nil ?_
  refine thru_on ?_
  refine pk_if rfl (fun h3 => ?_) (fun h3 => ?_)
  · skip
    refine pk_skip ?_
    refine thru_on ?_
    refine pk_block ?_
    have hij : i < j := by omega
    have hh : (i + j) / 2 < es.length := by omega
    rw [bsF_step lt hij] at hI
    refine Pk.tells (hr.some_of (by rw [flat_length cells2_len]; omega)) fun hA => ?_
    refine pk_seq ?_
    refine pk_region ?_
    refine pk_val rfl rfl rfl (val_move rfl rfl) ?_
    refine pk_val rfl rfl rfl (val_move rfl rfl) ?_
    refine pk_val rfl rfl rfl (val_add rfl rfl rfl (by omega)) ?_
    refine pk_val rfl rfl rfl (val_conv_fit rfl Try.underlying3 Try.underlying118 rfl (by simp [IntKind.wrap, IntKind.bits, IntKind.signed]; omega)) ?_
    refine pk_val rfl rfl rfl (val_shr1 rfl rfl rfl) ?_
    refine pk_val rfl rfl rfl (val_conv_fit rfl Try.underlying118 Try.underlying3 rfl (by simp [IntKind.wrap, IntKind.bits, IntKind.signed]; omega)) ?_
    refine pk_val rfl rfl rfl (val_assign rfl rfl) ?_
    refine pk_nil ?_
    refine thru_on ?_
    refine pk_seq ?_
    refine pk_region ?_
    refine pk_val rfl rfl rfl (val_move rfl rfl) ?_
    refine pk_val rfl rfl rfl (val_move rfl rfl) ?_
    refine pk_val rfl rfl rfl (val_move rfl rfl) ?_
    refine pk_val rfl rfl rfl (val_indexAddr rfl Try.underlying51 2 (by kernel_rfl) rfl rfl ((i + j) / 2) (by omega) hh (Ent.pure hA)) ?_
    refine pk_val rfl rfl rfl (val_loads (vs := cells2 (es.getD ((i + j) / 2) dE)) rfl Try.underlying59 rfl (by kernel_rfl) rfl (Ent.pure hA) (hr.rds (flat_rds cells2_len dE hh))) ?_
    refine pk_val rfl rfl rfl (val_move rfl rfl) ?_
    refine pk_eff (eff_callv1 rfl rfl ⟨_, Try.func43, by kernel_rfl, rfl⟩ rfl (fun E w s => PairPart_less_c (e := es.getD ((i + j) / 2) dE) s)) rfl rfl rfl (fun _ _ => ?_)
    refine pk_val rfl rfl rfl (val_lss rfl rfl rfl) ?_
    refine pk_nil ?_
    refine thru_on ?_
    refine pk_if rfl (fun h4 => ?_) (fun h4 => ?_)
    · skip
      have hx : lt ((i + j) / 2) = true := by rw [hlt]; dsimp only; rw [fst_getD, ← cmpZ_neg]; exact decide_eq_true h4
      rw [if_pos hx] at hI
      refine pk_region ?_
      refine pk_val rfl rfl rfl (val_move rfl rfl) ?_
      refine pk_val rfl rfl rfl (val_add rfl rfl rfl (by omega)) ?_
      refine pk_val rfl rfl rfl (val_assign rfl rfl) ?_
      refine pk_nil ?_
      refine in_on ?_
      refine thru_on ?_
      refine pk_next (x := ⟨i, j⟩) (((i + j) / 2 + 1, j)) ?_ ?_ ?_ ?_
      · (try dsimp only) <;> exact ⟨by omega, h2, hI⟩
      · (try dsimp only); exact ((by omega))
      · exact ⟨(Sub.cons rfl (by first | rfl | (congr 1; omega) | simp) (Sub.cons rfl (by first | rfl | (congr 1; omega) | simp) (Sub.cons rfl (by first | rfl | (congr 1; omega) | simp) (Sub.cons rfl (by first | rfl | (congr 1; omega) | simp) (Sub.cons rfl (by first | rfl | (congr 1; omega) | simp) (Sub.cons rfl (by first | rfl | (congr 1; omega) | simp) (Sub.nil _))))))), rfl⟩
      · exact (fun _ h => h)
    · skip
      have hx : ¬ lt ((i + j) / 2) = true := by rw [hlt]; dsimp only; rw [fst_getD, ← cmpZ_neg]; simpa using h4
      rw [if_neg hx] at hI
      refine pk_region ?_
      refine pk_val rfl rfl rfl (val_move rfl rfl) ?_
      refine pk_val rfl rfl rfl (val_assign rfl rfl) ?_
      refine pk_nil ?_
      refine in_on ?_
      refine thru_on ?_
      refine pk_next (x := ⟨i, j⟩) ((i, (i + j) / 2)) ?_ ?_ ?_ ?_
      · (try dsimp only) <;> exact ⟨by omega, by omega, hI⟩
      · (try dsimp only); exact ((by omega))
      · exact ⟨(Sub.cons rfl (by first | rfl | (congr 1; omega) | simp) (Sub.cons rfl (by first | rfl | (congr 1; omega) | simp) (Sub.cons rfl (by first | rfl | (congr 1; omega) | simp) (Sub.cons rfl (by first | rfl | (congr 1; omega) | simp) (Sub.cons rfl (by first | rfl | (congr 1; omega) | simp) (Sub.cons rfl (by first | rfl | (congr 1; omega) | simp) (Sub.nil _))))))), rfl⟩
      · exact (fun _ h => h)
  · skip
    rw [bsF_done lt (by omega)] at hI
    rw [← hI]
    refine pk_exit ?_
    refine thru ?_
    refine thru ?_
    refine pk_here ?_
    refine thru_on ?_
    refine pk_seq ?_
    refine pk_region ?_
    refine pk_val rfl rfl rfl (val_move rfl rfl) ?_
    refine pk_val rfl rfl rfl (val_move rfl rfl) ?_
    refine pk_val rfl rfl rfl (val_move rfl rfl) ?_
    refine pk_val rfl rfl rfl (val_lss rfl rfl rfl) ?_
    refine pk_val rfl rfl rfl (val_move rfl rfl) ?_
    by_cases hlt2 : i < es.length
    · skip
      refine Pk.slot 39 (v := .bool true) rfl (congrArg Value.bool (decide_eq_true (by omega))) ?_
      refine Pk.tells (hr.some_of (by rw [flat_length cells2_len]; omega)) fun hA => ?_
      refine pk_guard_yes rfl rfl rfl ?_
      refine pk_val rfl rfl rfl (val_move rfl rfl) ?_
      refine pk_guard_yes rfl rfl rfl ?_
      refine pk_val rfl rfl rfl (val_move rfl rfl) ?_
      refine pk_guard_yes rfl rfl rfl ?_
      refine pk_val rfl rfl rfl (val_move rfl rfl) ?_
      refine pk_guard_yes rfl rfl rfl ?_
      refine pk_val rfl rfl rfl (val_indexAddr rfl Try.underlying51 2 (by kernel_rfl) rfl rfl i rfl hlt2 (Ent.pure hA)) ?_
      refine pk_guard_yes rfl rfl rfl ?_
      refine pk_val rfl rfl rfl (val_loads (vs := cells2 (es.getD i dE)) rfl Try.underlying59 rfl (by kernel_rfl) rfl (Ent.pure hA) (hr.rds (flat_rds cells2_len dE hlt2))) ?_
      refine pk_guard_yes rfl rfl rfl ?_
      refine pk_val rfl rfl rfl (val_move rfl rfl) ?_
      refine pk_guard_yes rfl rfl rfl ?_
      refine pk_eff (eff_callv1 rfl rfl ⟨_, Try.func43, by kernel_rfl, rfl⟩ rfl (fun E w s => PairPart_less_c (e := es.getD i dE) s)) rfl rfl rfl (fun _ _ => ?_)
      refine pk_guard_yes rfl rfl rfl ?_
      refine pk_val rfl rfl rfl (val_eql rfl rfl rfl) ?_
      refine pk_val rfl rfl rfl (val_pick rfl rfl rfl rfl) ?_
      refine pk_val rfl rfl rfl (val_assign rfl rfl) ?_
      refine pk_val rfl rfl rfl (val_assign rfl rfl) ?_
      refine pk_nil ?_
      refine thru_on ?_
      refine pk_ret ?_
      refine ret2 rfl rfl rfl fun w s => ⟨?_, s⟩
      have e : bsB (es.map (·.1)) p = decide (cmpZ (es.getD i dE).1 p = 0) := by rw [bsB, ← hI, List.length_map, decide_eq_true hlt2, Bool.true_and, fst_getD, cmpZ_zero]
      rw [e]; rfl
    · skip
      refine Pk.slot 39 (v := .bool false) rfl (congrArg Value.bool (decide_eq_false (by omega))) ?_
      refine pk_guard_no rfl rfl rfl rfl rfl rfl ?_
      refine pk_guard_no rfl rfl rfl rfl rfl rfl ?_
      refine pk_guard_no rfl rfl rfl rfl rfl rfl ?_
      refine pk_guard_no rfl rfl rfl rfl rfl rfl ?_
      refine pk_guard_no rfl rfl rfl rfl rfl rfl ?_
      refine pk_guard_no rfl rfl rfl rfl rfl rfl ?_
      refine pk_guard_no rfl rfl rfl rfl rfl rfl ?_
      refine pk_guard_no rfl rfl rfl rfl rfl rfl ?_
      refine pk_val rfl rfl rfl (val_pick rfl rfl rfl rfl) ?_
      refine pk_val rfl rfl rfl (val_assign rfl rfl) ?_
      refine pk_val rfl rfl rfl (val_assign rfl rfl) ?_
      refine pk_nil ?_
      refine thru_on ?_
      refine pk_ret ?_
      refine ret2 rfl rfl rfl fun w s => ⟨?_, s⟩
      have e : bsB (es.map (·.1)) p = false := by rw [bsB, ← hI, List.length_map, decide_eq_false hlt2, Bool.false_and]
      rw [e]; rfl
end Go.Proofs.Ytdpckendkklfdaa
