/- The walks of package sum (Hash) and shard.Of; the binary search as it runs. -/
import Derived.Test.YtdpckendkklfdaaGreatEngN
import Derived.Test.YtdpckendkklfdaaGreatProg
set_option linter.unusedVariables false
set_option linter.unusedSimpArgs false
set_option maxRecDepth 100000
namespace Go.Proofs.YtdpckendkklfdaaGreat
open Go.RowKit Go.Proofs.Eng
def feedB (z : Int) (l : List UInt8) : Int := l.foldl (fun z b => IntKind.u64.wrap (IntKind.u64.wrap (BitVec.ofInt IntKind.u64.bits z ^^^ BitVec.ofInt IntKind.u64.bits ((b.toNat : Nat) : Int)).toNat * 1099511628211)) z
def hashB (s : ByteArray) : Int := feedB 14695981039346656037 s.data.toList
theorem wrap_nonneg (z : Int) : 0 ≤ IntKind.u64.wrap z ∧ IntKind.u64.wrap z < 18446744073709551616 := by
  simp only [IntKind.wrap, IntKind.bits, IntKind.signed]
  constructor
  · simp; omega
  · simp; omega
theorem feedB_nonneg : ∀ (l : List UInt8) (z : Int), 0 ≤ z → 0 ≤ feedB z l
  | [], z, h => h
  | b :: r, z, _ => feedB_nonneg r _ (wrap_nonneg _).1
theorem hashB_nonneg (s : ByteArray) : 0 ≤ hashB s := feedB_nonneg _ _ (by decide)
theorem feedB_take (z : Int) (l : List UInt8) {k : Nat} (h : k < l.length) : feedB z (l.take (k + 1)) = IntKind.u64.wrap (IntKind.u64.wrap (BitVec.ofInt IntKind.u64.bits (feedB z (l.take k)) ^^^ BitVec.ofInt IntKind.u64.bits (((l.getD k 0).toNat : Nat) : Int)).toNat * 1099511628211) := by
  rw [List.take_succ_eq_append_getElem h, feedB, List.foldl_append]
  simp [feedB, h]
def ofN (s : ByteArray) (p : Nat) : Nat := (hashB s % (p : Int)).toNat
theorem ofN_lt (s : ByteArray) {p : Nat} (h : 0 < p) : ofN s p < p := by
  have h1 := Int.emod_nonneg (hashB s) (show (p : Int) ≠ 0 by omega)
  have h2 := Int.emod_lt_of_pos (hashB s) (show (0 : Int) < (p : Int) by omega)
  unfold ofN; omega
theorem ofN_eq (s : ByteArray) {p : Nat} (h : 0 < p) : ((ofN s p : Nat) : Int) = hashB s % (p : Int) := by
  have h1 := Int.emod_nonneg (hashB s) (show (p : Int) ≠ 0 by omega)
  unfold ofN; omega
theorem u8_fit (b : UInt8) : IntKind.u64.wrap ((b.toNat : Nat) : Int) = ((b.toNat : Nat) : Int) := by
  have := b.toNat_lt
  exact wrap_u64 (by omega)
theorem sum_Begin_c {E w : World} {L : List Ch} (s : Sat E w L) : Calls Tryz.prog 220 #[] w (Gives E (.int .u64 14695981039346656037) L) := by
  refine enter (vs := []) Tryz.func220 rfl Tryz.ntmps220 rfl s ?_
  refine pk_seq ?_
  refine pk_region ?_
  refine pk_val rfl rfl rfl (val_assign rfl rfl) ?_
  refine pk_nil ?_
  refine thru_on ?_
  refine pk_seq ?_
  refine pk_region ?_
  refine pk_val rfl rfl rfl (val_assign rfl rfl) ?_
  refine pk_nil ?_
  refine thru_on ?_
  refine pk_ret ?_
  refine ret1 rfl rfl fun w s => ⟨rfl, s⟩
theorem sum_Feed_c {E w : World} {L : List Ch} {z : Int} {x : ByteArray} (s : Sat E w L) (hx : x.size ≤ 4611686018427387904) :
    Calls Tryz.prog 219 #[.int .u64 z, .string x] w (Gives E (.int .u64 (feedB z x.data.toList)) L) := by
  refine enter (vs := [_, _]) Tryz.func219 rfl Tryz.ntmps219 rfl s ?_
  refine pk_seq ?_
  refine pk_region ?_
  refine pk_val rfl rfl rfl (val_assign rfl rfl) ?_
  refine pk_nil ?_
  refine thru_on ?_
  refine pk_seq ?_
  refine pk_seq ?_
  refine pk_region ?_
  refine pk_val rfl rfl rfl (val_move rfl rfl) ?_
  refine pk_val rfl rfl rfl (val_len_string rfl Tryz.underlying9 rfl) ?_
  refine pk_val rfl rfl rfl (val_move rfl rfl) ?_
  refine pk_nil ?_
  refine thru_on ?_
  refine pk_block ?_
  refine pk_loop (α := Nat) (0) (fun k => [(0, .int .u64 (feedB z (x.data.toList.take k))), (1, .string x), (7, .int .i64 (x.size : Nat)), (8, .int .i64 (k : Nat))]) (fun k => L) (fun k => k ≤ x.size) (fun k => x.size - k) ?_ ?_ ?_ ?_
  · (try dsimp only) <;> exact Nat.zero_le _
  · exact ⟨(Sub.cons rfl (by first | rfl | (congr 1; omega) | simp) (Sub.cons rfl (by first | rfl | (congr 1; omega) | simp) (Sub.cons rfl (by first | rfl | (congr 1; omega) | simp) (Sub.cons rfl (by first | rfl | (congr 1; omega) | simp) (Sub.nil _))))), rfl⟩
  · exact (fun _ h => h)
  rintro k hk0
  have hxl : x.data.toList.length = x.size := by rw [Array.length_toList]; rfl
  refine pk_seq ?_
  refine pk_region ?_
  refine pk_val rfl rfl rfl (val_lss rfl rfl rfl) ?_
  refine pk_nil ?_
  refine thru_on ?_
  refine pk_seq ?_
  refine pk_if rfl (fun h => ?_) (fun h => ?_)
  · skip
    refine pk_skip ?_
    refine thru_on ?_
    have hk : k < x.size := by omega
    refine pk_seq ?_
    refine pk_block ?_
    refine pk_seq ?_
    refine pk_region ?_
    refine pk_val rfl rfl rfl (val_move rfl rfl) ?_
    refine pk_val rfl rfl rfl (val_assign rfl rfl) ?_
    refine pk_nil ?_
    refine thru_on ?_
    refine pk_seq ?_
    refine pk_region ?_
    refine pk_val rfl rfl rfl (val_move rfl rfl) ?_
    refine pk_val rfl rfl rfl (val_move rfl rfl) ?_
    refine pk_val rfl rfl rfl (val_move rfl rfl) ?_
    refine pk_val rfl rfl rfl (val_index_string rfl Tryz.underlying9 rfl rfl k rfl hk) ?_
    refine pk_val rfl rfl rfl (val_conv_fit rfl Tryz.underlying5 Tryz.underlying22 rfl (u8_fit _)) ?_
    refine pk_val rfl rfl rfl (val_xorw rfl rfl rfl) ?_
    refine pk_val rfl rfl rfl (val_assign rfl rfl) ?_
    refine pk_nil ?_
    refine thru_on ?_
    refine pk_region ?_
    refine pk_val rfl rfl rfl (val_move rfl rfl) ?_
    refine pk_val rfl rfl rfl (val_mulw rfl rfl rfl) ?_
    refine pk_val rfl rfl rfl (val_assign rfl rfl) ?_
    refine pk_nil ?_
    refine in_on ?_
    refine thru_on ?_
    refine pk_region ?_
    refine pk_val rfl rfl rfl (val_add rfl rfl rfl (by omega)) ?_
    refine pk_val rfl rfl rfl (val_move rfl rfl) ?_
    refine pk_nil ?_
    refine thru_on ?_
    refine pk_next (x := k) (k + 1) ?_ ?_ ?_ ?_
    · (try dsimp only) <;> exact hk
    · (try dsimp only); exact (by omega)
    · exact ⟨(Sub.cons rfl (by rw [feedB_take _ _ (by omega)]) (Sub.cons rfl (by first | rfl | (congr 1; omega) | simp) (Sub.cons rfl (by first | rfl | (congr 1; omega) | simp) (Sub.cons rfl (by first | rfl | (congr 1; omega) | simp) (Sub.nil _))))), rfl⟩
    · exact (fun _ h => h)
  · skip
    refine pk_exit ?_
    refine thru ?_
    refine thru ?_
    refine pk_here ?_
    refine thru_on ?_
    refine pk_seq ?_
    refine pk_region ?_
    refine pk_val rfl rfl rfl (val_move rfl rfl) ?_
    refine pk_val rfl rfl rfl (val_assign rfl rfl) ?_
    refine pk_nil ?_
    refine thru_on ?_
    refine pk_ret ?_
    have hkk : k = x.size := by omega
    refine ret1 rfl rfl fun w s => ⟨?_, s⟩
    rw [List.take_of_length_le (by omega)]
theorem sum_Hash_c {E w : World} {L : List Ch} {x : ByteArray} (s : Sat E w L) (hx : x.size ≤ 4611686018427387904) : Calls Tryz.prog 164 #[.string x] w (Gives E (.int .u64 (hashB x)) L) := by
  refine enter (vs := [_]) Tryz.func164 rfl Tryz.ntmps164 rfl s ?_
  refine pk_seq ?_
  refine pk_region ?_
  refine pk_val rfl rfl rfl (val_assign rfl rfl) ?_
  refine pk_nil ?_
  refine thru_on ?_
  refine pk_seq ?_
  refine pk_region ?_
  refine pk_eff (eff_call1 rfl ⟨_, Tryz.func220, by kernel_rfl, rfl⟩ rfl (fun E w s => sum_Begin_c s)) rfl rfl rfl (fun _ _ => ?_)
  refine pk_val rfl rfl rfl (val_move rfl rfl) ?_
  refine pk_eff (eff_call1 rfl ⟨_, Tryz.func219, by kernel_rfl, rfl⟩ rfl (fun E w s => sum_Feed_c s hx)) rfl rfl rfl (fun _ _ => ?_)
  refine pk_val rfl rfl rfl (val_assign rfl rfl) ?_
  refine pk_nil ?_
  refine thru_on ?_
  refine pk_ret ?_
  refine ret1 rfl rfl fun w s => ⟨rfl, s⟩
theorem shard_of_c {E w : World} {L : List Ch} {x : ByteArray} {p : Nat} (s : Sat E w L) (hx : x.size ≤ 4611686018427387904) (hp : 0 < p) (hp2 : p ≤ 1000000) : Calls Tryz.prog 90 #[.string x, .int .i64 (p : Nat)] w (Gives E (.int .i64 (ofN x p : Nat)) L) := by
  refine enter (vs := [_, _]) Tryz.func90 rfl Tryz.ntmps90 rfl s ?_
  have hlt := ofN_lt x hp
  refine pk_seq ?_
  refine pk_region ?_
  refine pk_val rfl rfl rfl (val_assign rfl rfl) ?_
  refine pk_nil ?_
  refine thru_on ?_
  refine pk_seq ?_
  refine pk_region ?_
  refine pk_val rfl rfl rfl (val_move rfl rfl) ?_
  refine pk_eff (eff_call1 rfl ⟨_, Tryz.func164, by kernel_rfl, rfl⟩ rfl (fun E w s => sum_Hash_c s hx)) rfl rfl rfl (fun _ _ => ?_)
  refine pk_val rfl rfl rfl (val_move rfl rfl) ?_
  refine pk_val rfl rfl rfl (val_conv_fit rfl Tryz.underlying3 Tryz.underlying22 rfl (by simp [IntKind.wrap, IntKind.bits, IntKind.signed]; omega)) ?_
  refine pk_val rfl rfl rfl (val_rem rfl rfl rfl (hashB_nonneg x) (by omega)) ?_
  refine Pk.slot 9 (v := .int .u64 (ofN x p : Nat)) rfl (by rw [ofN_eq x hp]) ?_
  refine pk_val rfl rfl rfl (val_conv_fit rfl Tryz.underlying22 Tryz.underlying3 rfl (by simp [IntKind.wrap, IntKind.bits, IntKind.signed]; omega)) ?_
  refine pk_val rfl rfl rfl (val_assign rfl rfl) ?_
  refine pk_nil ?_
  refine thru_on ?_
  refine pk_ret ?_
  refine ret1 rfl rfl fun w s => ⟨rfl, s⟩
def mayP (p : Int) : Bool := decide (1 ≤ p) && decide (p ≤ 64)
theorem shard_may_c {E w : World} {L : List Ch} {p : Int} (s : Sat E w L) : Calls Tryz.prog 89 #[.int .i64 p] w (Gives E (.bool (mayP p)) L) := by
  refine enter (vs := [_]) Tryz.func89 rfl Tryz.ntmps89 rfl s ?_
  refine pk_seq ?_
  refine pk_region ?_
  refine pk_val rfl rfl rfl (val_assign rfl rfl) ?_
  refine pk_nil ?_
  refine thru_on ?_
  refine pk_seq ?_
  refine pk_region ?_
  refine pk_val rfl rfl rfl (val_move rfl rfl) ?_
  refine pk_val rfl rfl rfl (val_geq rfl rfl rfl) ?_
  refine pk_val rfl rfl rfl (val_move rfl rfl) ?_
  by_cases h : 1 ≤ p
  · skip
    refine Pk.slot 5 (v := .bool true) rfl (congrArg Value.bool (decide_eq_true h)) ?_
    refine pk_guard_yes rfl rfl rfl ?_
    refine pk_val rfl rfl rfl (val_move rfl rfl) ?_
    refine pk_guard_yes rfl rfl rfl ?_
    refine pk_val rfl rfl rfl (val_leq rfl rfl rfl) ?_
    refine pk_val rfl rfl rfl (val_pick rfl rfl rfl rfl) ?_
    refine pk_val rfl rfl rfl (val_assign rfl rfl) ?_
    refine pk_nil ?_
    refine thru_on ?_
    refine pk_ret ?_
    refine ret1 rfl rfl fun w s => ⟨?_, s⟩
    have e : mayP p = decide (p ≤ 64) := by rw [mayP, decide_eq_true h, Bool.true_and]
    rw [e]; rfl
  · skip
    refine Pk.slot 5 (v := .bool false) rfl (congrArg Value.bool (decide_eq_false h)) ?_
    refine pk_guard_no rfl rfl rfl rfl rfl rfl ?_
    refine pk_guard_no rfl rfl rfl rfl rfl rfl ?_
    refine pk_val rfl rfl rfl (val_pick rfl rfl rfl rfl) ?_
    refine pk_val rfl rfl rfl (val_assign rfl rfl) ?_
    refine pk_nil ?_
    refine thru_on ?_
    refine pk_ret ?_
    refine ret1 rfl rfl fun w s => ⟨?_, s⟩
    have e : mayP p = false := by rw [mayP, decide_eq_false h, Bool.false_and]
    rw [e]; rfl
theorem shard_Of_c {E w : World} {L : List Ch} {x : ByteArray} {p : Nat} (s : Sat E w L) (hx : x.size ≤ 4611686018427387904) (hm : mayP (p : Int) = true) : Calls Tryz.prog 28 #[.string x, .int .i64 (p : Nat)] w (Gives E (.tuple #[.int .i64 (ofN x p : Nat), .int .i64 0]) L) := by
  refine enter (vs := [_, _]) Tryz.func28 rfl Tryz.ntmps28 rfl s ?_
  have hp : 1 ≤ p ∧ p ≤ 64 := by simp only [mayP, Bool.and_eq_true, decide_eq_true_eq] at hm; omega
  refine pk_seq ?_
  refine pk_region ?_
  refine pk_val rfl rfl rfl (val_assign rfl rfl) ?_
  refine pk_val rfl rfl rfl (val_assign rfl rfl) ?_
  refine pk_nil ?_
  refine thru_on ?_
  refine pk_seq ?_
  refine pk_seq ?_
  refine pk_region ?_
  refine pk_val rfl rfl rfl (val_move rfl rfl) ?_
  refine pk_eff (eff_call1 rfl ⟨_, Tryz.func89, by kernel_rfl, rfl⟩ rfl (fun E w s => shard_may_c s)) rfl rfl rfl (fun _ _ => ?_)
  refine pk_val rfl rfl rfl (val_not rfl rfl) ?_
  refine pk_nil ?_
  refine thru_on ?_
  refine pk_ifn rfl (fun h => ?_) (fun h => ?_)
  · skip
    refine pk_seq ?_
    refine pk_region ?_
    refine pk_val rfl rfl rfl (val_assign rfl rfl) ?_
    refine pk_val rfl rfl rfl (val_assign rfl rfl) ?_
    refine pk_nil ?_
    refine thru_on ?_
    refine pk_ret ?_
    refine thru_ret ?_
    rw [hm] at h; cases h
  · skip
    refine pk_skip ?_
    refine thru_on ?_
    refine pk_seq ?_
    refine pk_region ?_
    refine pk_val rfl rfl rfl (val_move rfl rfl) ?_
    refine pk_val rfl rfl rfl (val_move rfl rfl) ?_
    refine pk_eff (eff_call1 rfl ⟨_, Tryz.func90, by kernel_rfl, rfl⟩ rfl (fun E w s => shard_of_c s hx (by omega) (by omega))) rfl rfl rfl (fun _ _ => ?_)
    refine pk_val rfl rfl rfl (val_assign rfl rfl) ?_
    refine pk_val rfl rfl rfl (val_assign rfl rfl) ?_
    refine pk_nil ?_
    refine thru_on ?_
    refine pk_ret ?_
    refine ret2 rfl rfl rfl fun w s => ⟨rfl, s⟩
/-- the search, as it runs: a row of places before which lt says yes -/
def bsF (lt : Nat → Bool) : Nat → Nat → Nat → Nat
  | 0, i, _ => i
  | f + 1, i, j => if i < j then (if lt ((i + j) / 2) = true then bsF lt f ((i + j) / 2 + 1) j else bsF lt f i ((i + j) / 2)) else i
theorem bsF_fuel (lt : Nat → Bool) : ∀ (f i j : Nat), j - i ≤ f → bsF lt f i j = bsF lt (j - i) i j
  | f, i, j, h => by
    induction f using Nat.strongRecOn generalizing i j with
    | _ f ih =>
      cases f with
      | zero => rw [show j - i = 0 by omega]
      | succ f =>
        by_cases hij : i < j
        · obtain ⟨d, hd⟩ : ∃ d, j - i = d + 1 := ⟨j - i - 1, by omega⟩
          rw [hd, bsF, bsF, if_pos hij, if_pos hij]
          split
          · rw [ih f (by omega) _ _ (by omega), ih d (by omega) _ _ (by omega)]
          · rw [ih f (by omega) _ _ (by omega), ih d (by omega) _ _ (by omega)]
        · rw [show j - i = 0 by omega, bsF, bsF, if_neg hij]
theorem bsF_step (lt : Nat → Bool) {i j : Nat} (h : i < j) : bsF lt (j - i) i j = if lt ((i + j) / 2) = true then bsF lt (j - ((i + j) / 2 + 1)) ((i + j) / 2 + 1) j else bsF lt ((i + j) / 2 - i) i ((i + j) / 2) := by
  obtain ⟨d, hd⟩ : ∃ d, j - i = d + 1 := ⟨j - i - 1, by omega⟩
  rw [hd, bsF, if_pos h, bsF_fuel lt d _ _ (by omega), bsF_fuel lt d _ _ (by omega)]
theorem bsF_done (lt : Nat → Bool) {i j : Nat} (h : ¬ i < j) : bsF lt (j - i) i j = i := by rw [show j - i = 0 by omega]; rfl
theorem bsF_le (lt : Nat → Bool) : ∀ (f i j : Nat), i ≤ j → bsF lt f i j ≤ j
  | 0, i, j, h => h
  | f + 1, i, j, h => by
    rw [bsF]
    split
    · split
      · exact bsF_le lt f _ _ (by omega)
      · exact Nat.le_trans (bsF_le lt f _ _ (by omega)) (by omega)
    · exact h
end Go.Proofs.YtdpckendkklfdaaGreat
