/- The walks of package bloom, fourth part: Read. -/
import Derived.Test.YtdpckendkklfdaaGreatBlC
set_option linter.unusedVariables false
set_option linter.unusedSimpArgs false
set_option maxRecDepth 100000
namespace Go.Proofs.YtdpckendkklfdaaGreat
open Go.RowKit Go.Proofs.Eng
def rdB (l : List Nat) : Nat := l.getD 0 0 * 16777216 + l.getD 1 0 * 65536 + l.getD 2 0 * 256 + l.getD 3 0
def rdH (l : List Nat) : Nat := l.getD 4 0
def tailOk (l : List Nat) : Bool := !(decide (0 < rdB l % 8) && decide (l.getD (l.length - 1) 0 / 2 ^ (rdB l % 8) ≠ 0))
def readOk (l : List Nat) : Bool := decide (5 ≤ l.length) && mayF (rdB l : Nat) (rdH l : Nat) && decide (l.length = 5 + sizN (rdB l)) && tailOk l
theorem or_add {x y k : Nat} (h : y < 2 ^ k) : (x * 2 ^ k) ||| y = x * 2 ^ k + y := by
  rw [← Nat.shiftLeft_eq]; exact (Nat.shiftLeft_add_eq_or_of_lt h x).symm
theorem i64_or {a b : Nat} (ha : a < 4611686018427387904) (hb : b < 4611686018427387904) : IntKind.i64.wrap ((BitVec.ofInt IntKind.i64.bits (a : Int) ||| BitVec.ofInt IntKind.i64.bits (b : Int)).toNat : Int) = ((a ||| b : Nat) : Int) := by
  rw [bv_or (n := IntKind.i64.bits) (by simp [IntKind.bits]; omega) (by simp [IntKind.bits]; omega), wrap_i64]
  have := Nat.or_lt_two_pow (n := 62) (x := a) (y := b) (by omega) (by omega)
  omega
theorem i64_sh {a k : Nat} (ha : a < 256) (hk : k ≤ 24) : IntKind.i64.wrap ((a : Int) * 2 ^ (min (k : Int).toNat IntKind.i64.bits)) = ((a * 2 ^ k : Nat) : Int) := by
  have hm : min (k : Int).toNat IntKind.i64.bits = k := by simp [IntKind.bits]; omega
  have h2 : a * 2 ^ k ≤ 256 * 2 ^ 24 := Nat.mul_le_mul (by omega) (Nat.pow_le_pow_right (by decide) hk)
  rw [hm]
  have e : ((a : Int) * 2 ^ k) = ((a * 2 ^ k : Nat) : Int) := by simp
  rw [e, wrap_i64 (by omega)]
theorem rd_or {a b c d : Nat} (ha : a < 256) (hb : b < 256) (hc : c < 256) (hd : d < 256) : ((a * 2 ^ 24 ||| b * 2 ^ 16) ||| c * 2 ^ 8) ||| d = a * 16777216 + b * 65536 + c * 256 + d := by
  rw [or_add (by omega), show a * 2 ^ 24 + b * 2 ^ 16 = (a * 256 + b) * 2 ^ 16 by omega, or_add (by omega), show (a * 256 + b) * 2 ^ 16 + c * 2 ^ 8 = ((a * 256 + b) * 256 + c) * 2 ^ 8 by omega, or_add (by omega)]
theorem u8_shr {a k : Nat} (hk : k < 8) : ((a : Int).fdiv (2 ^ (min (k : Int).toNat IntKind.u8.bits))) = ((a / 2 ^ k : Nat) : Int) := by
  have hm : min (k : Int).toNat IntKind.u8.bits = k := by simp [IntKind.bits]; omega
  rw [hm, Int.fdiv_eq_ediv_of_nonneg _ (by exact Int.le_of_lt (Int.pow_pos (by decide)))]
  simp
theorem byt_drop {l : List Nat} (h : Byt l) (k : Nat) : Byt (l.drop k) := fun b hb => h b (List.mem_of_mem_drop hb)
theorem drop5 {L : List Ch} {A : Option Addr} {l : List Nat} {c s : Nat} (hr : Ent L (RdL A (l.map bV))) (hsz : l.length = 5 + s) (hnc : l.length ≤ c) : Ent L (RdL (subA A c 5 1) ((l.drop 5).map bV)) := by
  by_cases h : 5 < c
  · have e := Ent.drop (s := 1) (k := 5) hr h
    rw [Nat.mul_one, ← List.map_drop] at e; exact e
  · rw [List.drop_eq_nil_of_le (by omega)]
    exact fun _ _ k v e => by cases e
theorem readOk_fi {l : List Nat} (hb : Byt l) (h : readOk l = true) (A : Option Addr) (c : Nat) : FiOk ⟨rdB l, rdH l, l.drop 5, A, c⟩ := by
  simp only [readOk, Bool.and_eq_true, decide_eq_true_eq] at h
  obtain ⟨⟨⟨h1, h2⟩, h3⟩, _⟩ := h
  have := (mayF_iff _ _).1 h2
  exact ⟨by show 1 ≤ rdB l; omega, by show rdB l ≤ 65536; omega, by show 1 ≤ rdH l; omega, by show rdH l ≤ 16; omega, by show (l.drop 5).length = sizN (rdB l); rw [List.length_drop]; omega, byt_drop hb 5⟩
theorem bloom_Read_no {E w : World} {L : List Ch} {A : Option Addr} {c n : Nat} {l : List Nat} (s : Sat E w L) (hr : Ent L (RdL A (l.map bV))) (hb : Byt l) (hn : l.length = n) (hnc : n ≤ c) (hl : n ≤ 1099511627776) (hok : readOk l = false) :
    Calls Tryz.prog 204 #[.slice A n c] w (Gives E (.tuple #[.pointer none, .int .i64 2]) L) := by
  subst hn
  have hb0 := hb.getD 0
  have hb1 := hb.getD 1
  have hb2 := hb.getD 2
  have hb3 := hb.getD 3
  have hb4 := hb.getD 4
  have hrb : rdB l < 4294967296 := by unfold rdB; omega
  refine enter (vs := [_]) Tryz.func204 rfl Tryz.ntmps204 rfl s ?_
  refine pk_seq ?_
  refine pk_region ?_
  refine pk_val rfl rfl rfl (val_assign rfl rfl) ?_
  refine pk_val rfl rfl rfl (val_assign rfl rfl) ?_
  refine pk_nil ?_
  refine thru_on ?_
  refine pk_seq ?_
  refine pk_seq ?_
  refine pk_region ?_
  refine pk_val rfl rfl rfl (val_move rfl rfl) ?_
  refine pk_val rfl rfl rfl (val_len_slice rfl Tryz.underlying28 rfl) ?_
  refine pk_val rfl rfl rfl (val_lss rfl rfl rfl) ?_
  refine pk_nil ?_
  refine thru_on ?_
  refine pk_if rfl (fun h => ?_) (fun h => ?_)
  · skip
    refine pk_seq ?_
    refine pk_region ?_
    refine pk_val rfl rfl rfl (val_assign rfl rfl) ?_
    refine pk_val rfl rfl rfl (val_assign rfl rfl) ?_
    refine pk_nil ?_
    refine thru_on ?_
    refine pk_ret ?_
    refine thru_ret ?_
    refine ret2 rfl rfl rfl fun w s => ⟨rfl, s.to (fun _ h => h)⟩
  · skip
    refine pk_skip ?_
    refine thru_on ?_
    have h5 : 5 ≤ l.length := by omega
    refine Pk.tells (hr.some_of (by rw [List.length_map]; omega)) fun hA => ?_
    refine pk_seq ?_
    refine pk_drawk (.val 0 (.val 1 (.val 2 (.val 3 (.val 4 (.val 5 (.val 6 (.val 7 (.val 8 (.val 9 (.val 10 (.val 11 (.val 12 (.val 13 (.val 14 (.val 15 (.val 16 (.val 17 (.val 18 (.val 19 (.val 20 (.val 21 (.val 22 (.val 23 (.val 24 (.val 25 (.val 26 (.eff 27 (.eff 28 .nil))))))))))))))))))))))))))))) 28 [] rfl (by kernel_rfl) (fun _ _ _ _ _ h => h) ?_
    refine ord_val rfl rfl rfl rfl (fun _ h => h) (val_move rfl rfl) ?_
    refine ord_val rfl rfl rfl rfl (fun _ h => h) (val_indexAddr rfl Tryz.underlying28 1 (by kernel_rfl) rfl rfl 0 rfl (by omega) (Ent.pure hA)) ?_
    refine ord_val rfl rfl rfl rfl (fun _ h => h) (val_load rfl Tryz.underlying5 rfl rfl (hr.rd (get_map (f := bV) 0 (show 0 < l.length by omega)))) ?_
    refine ord_val rfl rfl rfl rfl (fun _ h => h) (val_conv_fit rfl Tryz.underlying5 Tryz.underlying3 rfl (wrap_i64 (by omega))) ?_
    refine ord_val rfl rfl rfl rfl (fun _ h => h) (val_shlw rfl rfl rfl (by decide)) ?_
    refine Pk.slot 13 (v := .int .i64 ((l.getD 0 0 * 2 ^ 24 : Nat) : Int)) rfl (congrArg (Value.int .i64) (i64_sh (k := 24) (hb.getD 0) (by decide))) ?_
    refine ord_val rfl rfl rfl rfl (fun _ h => h) (val_move rfl rfl) ?_
    refine ord_val rfl rfl rfl rfl (fun _ h => h) (val_indexAddr rfl Tryz.underlying28 1 (by kernel_rfl) rfl rfl 1 rfl (by omega) (Ent.pure hA)) ?_
    refine ord_val rfl rfl rfl rfl (fun _ h => h) (val_load rfl Tryz.underlying5 rfl rfl (hr.rd (get_map (f := bV) 0 (show 1 < l.length by omega)))) ?_
    refine ord_val rfl rfl rfl rfl (fun _ h => h) (val_conv_fit rfl Tryz.underlying5 Tryz.underlying3 rfl (wrap_i64 (by omega))) ?_
    refine ord_val rfl rfl rfl rfl (fun _ h => h) (val_shlw rfl rfl rfl (by decide)) ?_
    refine Pk.slot 18 (v := .int .i64 ((l.getD 1 0 * 2 ^ 16 : Nat) : Int)) rfl (congrArg (Value.int .i64) (i64_sh (k := 16) (hb.getD 1) (by decide))) ?_
    refine ord_val rfl rfl rfl rfl (fun _ h => h) (val_orw rfl rfl rfl) ?_
    refine Pk.slot 19 (v := .int .i64 ((l.getD 0 0 * 2 ^ 24 ||| l.getD 1 0 * 2 ^ 16 : Nat) : Int)) rfl (congrArg (Value.int .i64) (i64_or (by omega) (by omega))) ?_
    have h19 := Nat.or_lt_two_pow (n := 32) (x := l.getD 0 0 * 2 ^ 24) (y := l.getD 1 0 * 2 ^ 16) (by omega) (by omega)
    refine ord_val rfl rfl rfl rfl (fun _ h => h) (val_move rfl rfl) ?_
    refine ord_val rfl rfl rfl rfl (fun _ h => h) (val_indexAddr rfl Tryz.underlying28 1 (by kernel_rfl) rfl rfl 2 rfl (by omega) (Ent.pure hA)) ?_
    refine ord_val rfl rfl rfl rfl (fun _ h => h) (val_load rfl Tryz.underlying5 rfl rfl (hr.rd (get_map (f := bV) 0 (show 2 < l.length by omega)))) ?_
    refine ord_val rfl rfl rfl rfl (fun _ h => h) (val_conv_fit rfl Tryz.underlying5 Tryz.underlying3 rfl (wrap_i64 (by omega))) ?_
    refine ord_val rfl rfl rfl rfl (fun _ h => h) (val_shlw rfl rfl rfl (by decide)) ?_
    refine Pk.slot 24 (v := .int .i64 ((l.getD 2 0 * 2 ^ 8 : Nat) : Int)) rfl (congrArg (Value.int .i64) (i64_sh (k := 8) (hb.getD 2) (by decide))) ?_
    refine ord_val rfl rfl rfl rfl (fun _ h => h) (val_orw rfl rfl rfl) ?_
    refine Pk.slot 25 (v := .int .i64 (((l.getD 0 0 * 2 ^ 24 ||| l.getD 1 0 * 2 ^ 16) ||| l.getD 2 0 * 2 ^ 8 : Nat) : Int)) rfl (congrArg (Value.int .i64) (i64_or (by omega) (by omega))) ?_
    have h25 := Nat.or_lt_two_pow (n := 32) (x := l.getD 0 0 * 2 ^ 24 ||| l.getD 1 0 * 2 ^ 16) (y := l.getD 2 0 * 2 ^ 8) h19 (by omega)
    refine ord_val rfl rfl rfl rfl (fun _ h => h) (val_move rfl rfl) ?_
    refine ord_val rfl rfl rfl rfl (fun _ h => h) (val_indexAddr rfl Tryz.underlying28 1 (by kernel_rfl) rfl rfl 3 rfl (by omega) (Ent.pure hA)) ?_
    refine ord_val rfl rfl rfl rfl (fun _ h => h) (val_load rfl Tryz.underlying5 rfl rfl (hr.rd (get_map (f := bV) 0 (show 3 < l.length by omega)))) ?_
    refine ord_val rfl rfl rfl rfl (fun _ h => h) (val_conv_fit rfl Tryz.underlying5 Tryz.underlying3 rfl (wrap_i64 (by omega))) ?_
    refine ord_val rfl rfl rfl rfl (fun _ h => h) (val_orw rfl rfl rfl) ?_
    refine Pk.slot 30 (v := .int .i64 (rdB l : Nat)) rfl (congrArg (Value.int .i64) (by rw [i64_or (by omega) (by omega), rd_or hb0 hb1 hb2 hb3]; rfl)) ?_
    refine ord_val rfl rfl rfl rfl (fun _ h => h) (val_move rfl rfl) ?_
    refine ord_val rfl rfl rfl rfl (fun _ h => h) (val_indexAddr rfl Tryz.underlying28 1 (by kernel_rfl) rfl rfl 4 rfl (by omega) (Ent.pure hA)) ?_
    refine ord_val rfl rfl rfl rfl (fun _ h => h) (val_load rfl Tryz.underlying5 rfl rfl (hr.rd (get_map (f := bV) 0 (show 4 < l.length by omega)))) ?_
    refine ord_val rfl rfl rfl rfl (fun _ h => h) (val_conv_fit rfl Tryz.underlying5 Tryz.underlying3 rfl (wrap_i64 (by omega))) ?_
    refine ord_val rfl rfl rfl rfl (fun _ h => h) (val_build (z := [.int .i64 0, .int .i64 0]) [(0, 1), (1, 1)] rfl Tryz.underlying236 (by kernel_rfl) (by kernel_rfl) rfl rfl rfl) ?_
    refine ord_eff (eff_alloc (z := [.int .i64 0, .int .i64 0]) rfl (by kernel_rfl)) rfl rfl rfl rfl (.inr fun _ _ => (fun _ h => (Sats.keep [false] h :))) (fun b4 _ => ?_)
    refine ord_eff0 (eff_storeW 0 rfl rfl rfl rfl rfl (by kernel_rfl) rfl rfl rfl) rfl rfl rfl (.inl rfl) (fun _ _ => ?_)
    refine ord_nil ?_
    refine thru_on ?_
    refine pk_seq ?_
    refine pk_seq ?_
    refine pk_region ?_
    refine pk_val rfl rfl rfl (val_loads (vs := [.int .i64 (rdB l : Nat), .int .i64 (rdH l : Nat)]) rfl Tryz.underlying236 rfl (by kernel_rfl) rfl (Ent.pure rfl) ((Ent.own 0 rfl).rds (fun j v h => by rw [Nat.zero_add j]; exact h))) ?_
    refine pk_eff (eff_call1 rfl ⟨_, Tryz.func149, by kernel_rfl, rfl⟩ rfl (fun E w s => bloom_may_c s)) rfl rfl rfl (fun _ _ => ?_)
    refine pk_val rfl rfl rfl (val_not rfl rfl) ?_
    by_cases hmm : mayF (rdB l : Nat) (rdH l : Nat) = true
    · skip
      have hmb := (mayF_iff _ _).1 hmm
      have hsb : sizN (rdB l) ≤ 8200 := by unfold sizN; omega
      refine Pk.slot 38 (v := .bool false) rfl (by rw [hmm]; rfl) ?_
      refine pk_val rfl rfl rfl (val_move rfl rfl) ?_
      refine pk_guard_yes rfl rfl rfl ?_
      refine pk_val rfl rfl rfl (val_move rfl rfl) ?_
      refine pk_guard_yes rfl rfl rfl ?_
      refine pk_val rfl rfl rfl (val_len_slice rfl Tryz.underlying28 rfl) ?_
      refine pk_guard_yes rfl rfl rfl ?_
      refine pk_val rfl rfl rfl (val_loads (vs := [.int .i64 (rdB l : Nat), .int .i64 (rdH l : Nat)]) rfl Tryz.underlying236 rfl (by kernel_rfl) rfl (Ent.pure rfl) ((Ent.own 0 rfl).rds (fun j v h => by rw [Nat.zero_add j]; exact h))) ?_
      refine pk_guard_yes rfl rfl rfl ?_
      refine pk_eff (eff_call1 rfl ⟨_, Tryz.func150, by kernel_rfl, rfl⟩ rfl (fun E w s => bloom_size_c s (by omega))) rfl rfl rfl (fun _ _ => ?_)
      refine pk_guard_yes rfl rfl rfl ?_
      refine pk_val rfl rfl rfl (val_add rfl rfl rfl (by omega)) ?_
      refine pk_guard_yes rfl rfl rfl ?_
      refine pk_val rfl rfl rfl (val_neq rfl rfl rfl) ?_
      refine pk_val rfl rfl rfl (val_pick rfl rfl rfl rfl) ?_
      refine pk_nil ?_
      refine thru_on ?_
      refine pk_ifb rfl (fun h2 => ?_) (fun h2 => ?_)
      · skip
        refine pk_seq ?_
        refine pk_region ?_
        refine pk_val rfl rfl rfl (val_assign rfl rfl) ?_
        refine pk_val rfl rfl rfl (val_assign rfl rfl) ?_
        refine pk_nil ?_
        refine thru_on ?_
        refine pk_ret ?_
        refine thru_ret ?_
        refine ret2 rfl rfl rfl fun w s => ⟨rfl, s.to (fun _ h => Sats.keep [false] h)⟩
      · skip
        refine pk_skip ?_
        refine thru_on ?_
        have hsz : l.length = 5 + sizN (rdB l) := by have := of_decide_eq_false h2; omega
        refine pk_seq ?_
        refine pk_seq ?_
        refine pk_region ?_
        refine pk_val rfl rfl rfl (val_fieldAddr rfl Tryz.underlying236 0 1 (by kernel_rfl) (by decide) rfl (Ent.pure rfl)) ?_
        refine pk_val rfl rfl rfl (val_load (v := .int .i64 (rdB l : Nat)) rfl Tryz.underlying3 rfl rfl ((Ent.own 0 rfl).rd rfl)) ?_
        refine pk_val rfl rfl rfl (val_rem rfl rfl rfl (by omega) (by decide)) ?_
        refine Pk.slot 49 (v := .int .i64 ((rdB l % 8 : Nat) : Int)) rfl (by rw [Int.natCast_emod]; rfl) ?_
        refine pk_val rfl rfl rfl (val_assign rfl rfl) ?_
        refine pk_nil ?_
        refine thru_on ?_
        refine pk_seq ?_
        refine pk_region ?_
        refine pk_val rfl rfl rfl (val_move rfl rfl) ?_
        refine pk_val rfl rfl rfl (val_gtr rfl rfl rfl) ?_
        by_cases hpos : 0 < rdB l % 8
        · skip
          refine Pk.slot 51 (v := .bool true) rfl (congrArg Value.bool (decide_eq_true (by omega))) ?_
          refine pk_val rfl rfl rfl (val_move rfl rfl) ?_
          refine pk_guard_yes rfl rfl rfl ?_
          refine pk_val rfl rfl rfl (val_move rfl rfl) ?_
          refine pk_guard_yes rfl rfl rfl ?_
          refine pk_val rfl rfl rfl (val_move rfl rfl) ?_
          refine pk_guard_yes rfl rfl rfl ?_
          refine pk_val rfl rfl rfl (val_len_slice rfl Tryz.underlying28 rfl) ?_
          refine pk_guard_yes rfl rfl rfl ?_
          refine pk_val rfl rfl rfl (val_sub rfl rfl rfl (by omega)) ?_
          refine pk_guard_yes rfl rfl rfl ?_
          refine pk_val rfl rfl rfl (val_indexAddr rfl Tryz.underlying28 1 (by kernel_rfl) rfl rfl (l.length - 1) (by omega) (by omega) (Ent.pure hA)) ?_
          refine pk_guard_yes rfl rfl rfl ?_
          refine pk_val rfl rfl rfl (val_load rfl Tryz.underlying5 rfl rfl (hr.cons.rd (get_map (f := bV) 0 (show l.length - 1 < l.length by omega)))) ?_
          refine pk_guard_yes rfl rfl rfl ?_
          refine pk_val rfl rfl rfl (val_move rfl rfl) ?_
          refine pk_guard_yes rfl rfl rfl ?_
          refine pk_val rfl rfl rfl (val_shrw rfl rfl rfl (by omega)) ?_
          obtain ⟨x60, hx60⟩ : ∃ x, x = l.getD (l.length - 1) 0 / 2 ^ (rdB l % 8) := ⟨_, rfl⟩
          refine Pk.slot 60 (v := .int .u8 (x60 : Nat)) rfl (by rw [hx60]; exact congrArg (Value.int .u8) (u8_shr (Nat.mod_lt _ (by decide)))) ?_
          refine pk_guard_yes rfl rfl rfl ?_
          refine pk_val rfl rfl rfl (val_neq rfl rfl rfl) ?_
          refine pk_val rfl rfl rfl (val_pick rfl rfl rfl rfl) ?_
          refine pk_nil ?_
          refine thru_on ?_
          refine pk_if rfl (fun h3 => ?_) (fun h3 => ?_)
          · skip
            have h3' : x60 ≠ 0 := by omega
            refine pk_seq ?_
            refine pk_region ?_
            refine pk_val rfl rfl rfl (val_assign rfl rfl) ?_
            refine pk_val rfl rfl rfl (val_assign rfl rfl) ?_
            refine pk_nil ?_
            refine thru_on ?_
            refine pk_ret ?_
            refine thru_ret ?_
            refine ret2 rfl rfl rfl fun w s => ⟨rfl, s.to (fun _ h => Sats.keep [false] h)⟩
          · skip
            refine pk_skip ?_
            refine thru_on ?_
            have h3' : ¬ x60 ≠ 0 := by omega
            have htl : tailOk l = true := by rw [tailOk, decide_eq_true hpos, ← hx60, decide_eq_false h3']; rfl
            refine pk_seq ?_
            exfalso
            have eok : readOk l = true := by rw [readOk, decide_eq_true h5, hmm, decide_eq_true hsz, htl]; rfl
            rw [hok] at eok; cases eok
        · skip
          refine Pk.slot 51 (v := .bool false) rfl (congrArg Value.bool (decide_eq_false (by omega))) ?_
          have htl : tailOk l = true := by rw [tailOk, decide_eq_false hpos]; rfl
          refine pk_val rfl rfl rfl (val_move rfl rfl) ?_
          refine pk_guard_no rfl rfl rfl rfl rfl rfl ?_
          refine pk_guard_no rfl rfl rfl rfl rfl rfl ?_
          refine pk_guard_no rfl rfl rfl rfl rfl rfl ?_
          refine pk_guard_no rfl rfl rfl rfl rfl rfl ?_
          refine pk_guard_no rfl rfl rfl rfl rfl rfl ?_
          refine pk_guard_no rfl rfl rfl rfl rfl rfl ?_
          refine pk_guard_no rfl rfl rfl rfl rfl rfl ?_
          refine pk_guard_no rfl rfl rfl rfl rfl rfl ?_
          refine pk_guard_no rfl rfl rfl rfl rfl rfl ?_
          refine pk_val rfl rfl rfl (val_pick rfl rfl rfl rfl) ?_
          refine pk_nil ?_
          refine thru_on ?_
          refine pk_cond_f rfl ?_
          exfalso
          have eok : readOk l = true := by rw [readOk, decide_eq_true h5, hmm, decide_eq_true hsz, htl]; rfl
          rw [hok] at eok; cases eok
    · skip
      have hmm : mayF (rdB l : Nat) (rdH l : Nat) = false := by simpa using hmm
      refine Pk.slot 38 (v := .bool true) rfl (by rw [hmm]; rfl) ?_
      refine pk_val rfl rfl rfl (val_move rfl rfl) ?_
      refine pk_guard_no rfl rfl rfl rfl rfl rfl ?_
      refine pk_guard_no rfl rfl rfl rfl rfl rfl ?_
      refine pk_guard_no rfl rfl rfl rfl rfl rfl ?_
      refine pk_guard_no rfl rfl rfl rfl rfl rfl ?_
      refine pk_guard_no rfl rfl rfl rfl rfl rfl ?_
      refine pk_guard_no rfl rfl rfl rfl rfl rfl ?_
      refine pk_val rfl rfl rfl (val_pick rfl rfl rfl rfl) ?_
      refine pk_nil ?_
      refine thru_on ?_
      refine pk_cond_t rfl ?_
      refine pk_seq ?_
      refine pk_region ?_
      refine pk_val rfl rfl rfl (val_assign rfl rfl) ?_
      refine pk_val rfl rfl rfl (val_assign rfl rfl) ?_
      refine pk_nil ?_
      refine thru_on ?_
      refine pk_ret ?_
      refine thru_ret ?_
      refine ret2 rfl rfl rfl fun w s => ⟨rfl, s.to (fun _ h => Sats.keep [false] h)⟩
theorem bloom_Read_c {E w : World} {L : List Ch} {A : Option Addr} {c n : Nat} {l : List Nat} (s : Sat E w L) (hr : Ent L (RdL A (l.map bV))) (hb : Byt l) (hn : l.length = n) (hnc : n ≤ c) (hl : n ≤ 1099511627776) (hok : readOk l = true) :
    Calls Tryz.prog 204 #[.slice A n c] w (GivesX E (fun q : Nat × Option Addr × Nat => .tuple #[ptr (some ⟨q.1, 0, none⟩) 0, .int .i64 0]) (fun q => fiCh q.1 ⟨rdB l, rdH l, l.drop 5, q.2.1, q.2.2⟩ :: L) (fun _ => True)) := by
  subst hn
  have hb0 := hb.getD 0
  have hb1 := hb.getD 1
  have hb2 := hb.getD 2
  have hb3 := hb.getD 3
  have hb4 := hb.getD 4
  have hrb : rdB l < 4294967296 := by unfold rdB; omega
  refine enter (vs := [_]) Tryz.func204 rfl Tryz.ntmps204 rfl s ?_
  refine pk_seq ?_
  refine pk_region ?_
  refine pk_val rfl rfl rfl (val_assign rfl rfl) ?_
  refine pk_val rfl rfl rfl (val_assign rfl rfl) ?_
  refine pk_nil ?_
  refine thru_on ?_
  refine pk_seq ?_
  refine pk_seq ?_
  refine pk_region ?_
  refine pk_val rfl rfl rfl (val_move rfl rfl) ?_
  refine pk_val rfl rfl rfl (val_len_slice rfl Tryz.underlying28 rfl) ?_
  refine pk_val rfl rfl rfl (val_lss rfl rfl rfl) ?_
  refine pk_nil ?_
  refine thru_on ?_
  refine pk_if rfl (fun h => ?_) (fun h => ?_)
  · skip
    exfalso
    have eno : readOk l = false := by rw [readOk, decide_eq_false (by omega)]; rfl
    rw [hok] at eno; cases eno
  · skip
    refine pk_skip ?_
    refine thru_on ?_
    have h5 : 5 ≤ l.length := by omega
    refine Pk.tells (hr.some_of (by rw [List.length_map]; omega)) fun hA => ?_
    refine pk_seq ?_
    refine pk_drawk (.val 0 (.val 1 (.val 2 (.val 3 (.val 4 (.val 5 (.val 6 (.val 7 (.val 8 (.val 9 (.val 10 (.val 11 (.val 12 (.val 13 (.val 14 (.val 15 (.val 16 (.val 17 (.val 18 (.val 19 (.val 20 (.val 21 (.val 22 (.val 23 (.val 24 (.val 25 (.val 26 (.eff 27 (.eff 28 .nil))))))))))))))))))))))))))))) 28 [] rfl (by kernel_rfl) (fun _ _ _ _ _ h => h) ?_
    refine ord_val rfl rfl rfl rfl (fun _ h => h) (val_move rfl rfl) ?_
    refine ord_val rfl rfl rfl rfl (fun _ h => h) (val_indexAddr rfl Tryz.underlying28 1 (by kernel_rfl) rfl rfl 0 rfl (by omega) (Ent.pure hA)) ?_
    refine ord_val rfl rfl rfl rfl (fun _ h => h) (val_load rfl Tryz.underlying5 rfl rfl (hr.rd (get_map (f := bV) 0 (show 0 < l.length by omega)))) ?_
    refine ord_val rfl rfl rfl rfl (fun _ h => h) (val_conv_fit rfl Tryz.underlying5 Tryz.underlying3 rfl (wrap_i64 (by omega))) ?_
    refine ord_val rfl rfl rfl rfl (fun _ h => h) (val_shlw rfl rfl rfl (by decide)) ?_
    refine Pk.slot 13 (v := .int .i64 ((l.getD 0 0 * 2 ^ 24 : Nat) : Int)) rfl (congrArg (Value.int .i64) (i64_sh (k := 24) (hb.getD 0) (by decide))) ?_
    refine ord_val rfl rfl rfl rfl (fun _ h => h) (val_move rfl rfl) ?_
    refine ord_val rfl rfl rfl rfl (fun _ h => h) (val_indexAddr rfl Tryz.underlying28 1 (by kernel_rfl) rfl rfl 1 rfl (by omega) (Ent.pure hA)) ?_
    refine ord_val rfl rfl rfl rfl (fun _ h => h) (val_load rfl Tryz.underlying5 rfl rfl (hr.rd (get_map (f := bV) 0 (show 1 < l.length by omega)))) ?_
    refine ord_val rfl rfl rfl rfl (fun _ h => h) (val_conv_fit rfl Tryz.underlying5 Tryz.underlying3 rfl (wrap_i64 (by omega))) ?_
    refine ord_val rfl rfl rfl rfl (fun _ h => h) (val_shlw rfl rfl rfl (by decide)) ?_
    refine Pk.slot 18 (v := .int .i64 ((l.getD 1 0 * 2 ^ 16 : Nat) : Int)) rfl (congrArg (Value.int .i64) (i64_sh (k := 16) (hb.getD 1) (by decide))) ?_
    refine ord_val rfl rfl rfl rfl (fun _ h => h) (val_orw rfl rfl rfl) ?_
    refine Pk.slot 19 (v := .int .i64 ((l.getD 0 0 * 2 ^ 24 ||| l.getD 1 0 * 2 ^ 16 : Nat) : Int)) rfl (congrArg (Value.int .i64) (i64_or (by omega) (by omega))) ?_
    have h19 := Nat.or_lt_two_pow (n := 32) (x := l.getD 0 0 * 2 ^ 24) (y := l.getD 1 0 * 2 ^ 16) (by omega) (by omega)
    refine ord_val rfl rfl rfl rfl (fun _ h => h) (val_move rfl rfl) ?_
    refine ord_val rfl rfl rfl rfl (fun _ h => h) (val_indexAddr rfl Tryz.underlying28 1 (by kernel_rfl) rfl rfl 2 rfl (by omega) (Ent.pure hA)) ?_
    refine ord_val rfl rfl rfl rfl (fun _ h => h) (val_load rfl Tryz.underlying5 rfl rfl (hr.rd (get_map (f := bV) 0 (show 2 < l.length by omega)))) ?_
    refine ord_val rfl rfl rfl rfl (fun _ h => h) (val_conv_fit rfl Tryz.underlying5 Tryz.underlying3 rfl (wrap_i64 (by omega))) ?_
    refine ord_val rfl rfl rfl rfl (fun _ h => h) (val_shlw rfl rfl rfl (by decide)) ?_
    refine Pk.slot 24 (v := .int .i64 ((l.getD 2 0 * 2 ^ 8 : Nat) : Int)) rfl (congrArg (Value.int .i64) (i64_sh (k := 8) (hb.getD 2) (by decide))) ?_
    refine ord_val rfl rfl rfl rfl (fun _ h => h) (val_orw rfl rfl rfl) ?_
    refine Pk.slot 25 (v := .int .i64 (((l.getD 0 0 * 2 ^ 24 ||| l.getD 1 0 * 2 ^ 16) ||| l.getD 2 0 * 2 ^ 8 : Nat) : Int)) rfl (congrArg (Value.int .i64) (i64_or (by omega) (by omega))) ?_
    have h25 := Nat.or_lt_two_pow (n := 32) (x := l.getD 0 0 * 2 ^ 24 ||| l.getD 1 0 * 2 ^ 16) (y := l.getD 2 0 * 2 ^ 8) h19 (by omega)
    refine ord_val rfl rfl rfl rfl (fun _ h => h) (val_move rfl rfl) ?_
    refine ord_val rfl rfl rfl rfl (fun _ h => h) (val_indexAddr rfl Tryz.underlying28 1 (by kernel_rfl) rfl rfl 3 rfl (by omega) (Ent.pure hA)) ?_
    refine ord_val rfl rfl rfl rfl (fun _ h => h) (val_load rfl Tryz.underlying5 rfl rfl (hr.rd (get_map (f := bV) 0 (show 3 < l.length by omega)))) ?_
    refine ord_val rfl rfl rfl rfl (fun _ h => h) (val_conv_fit rfl Tryz.underlying5 Tryz.underlying3 rfl (wrap_i64 (by omega))) ?_
    refine ord_val rfl rfl rfl rfl (fun _ h => h) (val_orw rfl rfl rfl) ?_
    refine Pk.slot 30 (v := .int .i64 (rdB l : Nat)) rfl (congrArg (Value.int .i64) (by rw [i64_or (by omega) (by omega), rd_or hb0 hb1 hb2 hb3]; rfl)) ?_
    refine ord_val rfl rfl rfl rfl (fun _ h => h) (val_move rfl rfl) ?_
    refine ord_val rfl rfl rfl rfl (fun _ h => h) (val_indexAddr rfl Tryz.underlying28 1 (by kernel_rfl) rfl rfl 4 rfl (by omega) (Ent.pure hA)) ?_
    refine ord_val rfl rfl rfl rfl (fun _ h => h) (val_load rfl Tryz.underlying5 rfl rfl (hr.rd (get_map (f := bV) 0 (show 4 < l.length by omega)))) ?_
    refine ord_val rfl rfl rfl rfl (fun _ h => h) (val_conv_fit rfl Tryz.underlying5 Tryz.underlying3 rfl (wrap_i64 (by omega))) ?_
    refine ord_val rfl rfl rfl rfl (fun _ h => h) (val_build (z := [.int .i64 0, .int .i64 0]) [(0, 1), (1, 1)] rfl Tryz.underlying236 (by kernel_rfl) (by kernel_rfl) rfl rfl rfl) ?_
    refine ord_eff (eff_alloc (z := [.int .i64 0, .int .i64 0]) rfl (by kernel_rfl)) rfl rfl rfl rfl (.inr fun _ _ => (fun _ h => (Sats.keep [false] h :))) (fun b4 _ => ?_)
    refine ord_eff0 (eff_storeW 0 rfl rfl rfl rfl rfl (by kernel_rfl) rfl rfl rfl) rfl rfl rfl (.inl rfl) (fun _ _ => ?_)
    refine ord_nil ?_
    refine thru_on ?_
    refine pk_seq ?_
    refine pk_seq ?_
    refine pk_region ?_
    refine pk_val rfl rfl rfl (val_loads (vs := [.int .i64 (rdB l : Nat), .int .i64 (rdH l : Nat)]) rfl Tryz.underlying236 rfl (by kernel_rfl) rfl (Ent.pure rfl) ((Ent.own 0 rfl).rds (fun j v h => by rw [Nat.zero_add j]; exact h))) ?_
    refine pk_eff (eff_call1 rfl ⟨_, Tryz.func149, by kernel_rfl, rfl⟩ rfl (fun E w s => bloom_may_c s)) rfl rfl rfl (fun _ _ => ?_)
    refine pk_val rfl rfl rfl (val_not rfl rfl) ?_
    by_cases hmm : mayF (rdB l : Nat) (rdH l : Nat) = true
    · skip
      have hmb := (mayF_iff _ _).1 hmm
      have hsb : sizN (rdB l) ≤ 8200 := by unfold sizN; omega
      refine Pk.slot 38 (v := .bool false) rfl (by rw [hmm]; rfl) ?_
      refine pk_val rfl rfl rfl (val_move rfl rfl) ?_
      refine pk_guard_yes rfl rfl rfl ?_
      refine pk_val rfl rfl rfl (val_move rfl rfl) ?_
      refine pk_guard_yes rfl rfl rfl ?_
      refine pk_val rfl rfl rfl (val_len_slice rfl Tryz.underlying28 rfl) ?_
      refine pk_guard_yes rfl rfl rfl ?_
      refine pk_val rfl rfl rfl (val_loads (vs := [.int .i64 (rdB l : Nat), .int .i64 (rdH l : Nat)]) rfl Tryz.underlying236 rfl (by kernel_rfl) rfl (Ent.pure rfl) ((Ent.own 0 rfl).rds (fun j v h => by rw [Nat.zero_add j]; exact h))) ?_
      refine pk_guard_yes rfl rfl rfl ?_
      refine pk_eff (eff_call1 rfl ⟨_, Tryz.func150, by kernel_rfl, rfl⟩ rfl (fun E w s => bloom_size_c s (by omega))) rfl rfl rfl (fun _ _ => ?_)
      refine pk_guard_yes rfl rfl rfl ?_
      refine pk_val rfl rfl rfl (val_add rfl rfl rfl (by omega)) ?_
      refine pk_guard_yes rfl rfl rfl ?_
      refine pk_val rfl rfl rfl (val_neq rfl rfl rfl) ?_
      refine pk_val rfl rfl rfl (val_pick rfl rfl rfl rfl) ?_
      refine pk_nil ?_
      refine thru_on ?_
      refine pk_ifb rfl (fun h2 => ?_) (fun h2 => ?_)
      · skip
        exfalso
        have eno : readOk l = false := by rw [readOk, hmm, decide_eq_false (fun e : l.length = 5 + sizN (rdB l) => of_decide_eq_true h2 (by omega))]; simp
        rw [hok] at eno; cases eno
      · skip
        refine pk_skip ?_
        refine thru_on ?_
        have hsz : l.length = 5 + sizN (rdB l) := by have := of_decide_eq_false h2; omega
        refine pk_seq ?_
        refine pk_seq ?_
        refine pk_region ?_
        refine pk_val rfl rfl rfl (val_fieldAddr rfl Tryz.underlying236 0 1 (by kernel_rfl) (by decide) rfl (Ent.pure rfl)) ?_
        refine pk_val rfl rfl rfl (val_load (v := .int .i64 (rdB l : Nat)) rfl Tryz.underlying3 rfl rfl ((Ent.own 0 rfl).rd rfl)) ?_
        refine pk_val rfl rfl rfl (val_rem rfl rfl rfl (by omega) (by decide)) ?_
        refine Pk.slot 49 (v := .int .i64 ((rdB l % 8 : Nat) : Int)) rfl (by rw [Int.natCast_emod]; rfl) ?_
        refine pk_val rfl rfl rfl (val_assign rfl rfl) ?_
        refine pk_nil ?_
        refine thru_on ?_
        refine pk_seq ?_
        refine pk_region ?_
        refine pk_val rfl rfl rfl (val_move rfl rfl) ?_
        refine pk_val rfl rfl rfl (val_gtr rfl rfl rfl) ?_
        by_cases hpos : 0 < rdB l % 8
        · skip
          refine Pk.slot 51 (v := .bool true) rfl (congrArg Value.bool (decide_eq_true (by omega))) ?_
          refine pk_val rfl rfl rfl (val_move rfl rfl) ?_
          refine pk_guard_yes rfl rfl rfl ?_
          refine pk_val rfl rfl rfl (val_move rfl rfl) ?_
          refine pk_guard_yes rfl rfl rfl ?_
          refine pk_val rfl rfl rfl (val_move rfl rfl) ?_
          refine pk_guard_yes rfl rfl rfl ?_
          refine pk_val rfl rfl rfl (val_len_slice rfl Tryz.underlying28 rfl) ?_
          refine pk_guard_yes rfl rfl rfl ?_
          refine pk_val rfl rfl rfl (val_sub rfl rfl rfl (by omega)) ?_
          refine pk_guard_yes rfl rfl rfl ?_
          refine pk_val rfl rfl rfl (val_indexAddr rfl Tryz.underlying28 1 (by kernel_rfl) rfl rfl (l.length - 1) (by omega) (by omega) (Ent.pure hA)) ?_
          refine pk_guard_yes rfl rfl rfl ?_
          refine pk_val rfl rfl rfl (val_load rfl Tryz.underlying5 rfl rfl (hr.cons.rd (get_map (f := bV) 0 (show l.length - 1 < l.length by omega)))) ?_
          refine pk_guard_yes rfl rfl rfl ?_
          refine pk_val rfl rfl rfl (val_move rfl rfl) ?_
          refine pk_guard_yes rfl rfl rfl ?_
          refine pk_val rfl rfl rfl (val_shrw rfl rfl rfl (by omega)) ?_
          obtain ⟨x60, hx60⟩ : ∃ x, x = l.getD (l.length - 1) 0 / 2 ^ (rdB l % 8) := ⟨_, rfl⟩
          refine Pk.slot 60 (v := .int .u8 (x60 : Nat)) rfl (by rw [hx60]; exact congrArg (Value.int .u8) (u8_shr (Nat.mod_lt _ (by decide)))) ?_
          refine pk_guard_yes rfl rfl rfl ?_
          refine pk_val rfl rfl rfl (val_neq rfl rfl rfl) ?_
          refine pk_val rfl rfl rfl (val_pick rfl rfl rfl rfl) ?_
          refine pk_nil ?_
          refine thru_on ?_
          refine pk_if rfl (fun h3 => ?_) (fun h3 => ?_)
          · skip
            have h3' : x60 ≠ 0 := by omega
            refine pk_seq ?_
            exfalso
            have eno : readOk l = false := by rw [readOk, tailOk, decide_eq_true hpos, ← hx60, decide_eq_true h3']; simp
            rw [hok] at eno; cases eno
          · skip
            refine pk_skip ?_
            refine thru_on ?_
            have h3' : ¬ x60 ≠ 0 := by omega
            have htl : tailOk l = true := by rw [tailOk, decide_eq_true hpos, ← hx60, decide_eq_false h3']; rfl
            refine pk_seq ?_
            refine pk_drawk (.val 0 (.val 1 (.val 2 (.eff 3 (.val 4 (.eff 5 (.val 6 (.val 7 .nil)))))))) 1008 [] rfl (by kernel_rfl) (fun _ _ _ _ _ h => h) ?_
            refine ord_val rfl rfl rfl rfl (fun _ h => h) (val_loads (vs := [.int .i64 (rdB l : Nat), .int .i64 (rdH l : Nat)]) rfl Tryz.underlying236 rfl (by kernel_rfl) rfl (Ent.pure rfl) ((Ent.own 0 rfl).rds (fun j v h => by rw [Nat.zero_add j]; exact h))) ?_
            refine ord_val rfl rfl rfl rfl (fun _ h => h) (val_move rfl rfl) ?_
            refine ord_val rfl rfl rfl rfl (fun _ h => h) (val_slice_l rfl Tryz.underlying28 1 (by kernel_rfl) rfl rfl 5 rfl h5) ?_
            refine ord_eff (eff_callx rfl ⟨_, Tryz.func87, by kernel_rfl, rfl⟩ rfl (fun E w s => slices_Clone_byte_c (l := l.drop 5) s (drop5 hr.cons hsz hnc) (by rw [List.length_drop]) (by omega))) rfl rfl rfl rfl (.inr fun _ _ => (fun _ h => (Sats.keep [false, true] h :))) (fun q66 _ => ?_)
            refine ord_val rfl rfl rfl rfl (fun _ h => (Sats.keep [false, true] h :)) (val_build (z := [.int .i64 0, .int .i64 0, .slice none 0 0]) [(0, 2), (2, 1)] rfl Tryz.underlying239 (by kernel_rfl) (by kernel_rfl) rfl rfl rfl) ?_
            refine ord_eff (eff_box rfl rfl rfl) rfl rfl rfl rfl (.inr fun _ _ => (fun _ h => (Sats.keep [false, false, true] h :))) (fun b68 _ => ?_)
            refine ord_val rfl rfl rfl rfl (fun _ h => (Sats.keep [false, false, true] h :)) (val_assign rfl rfl) ?_
            refine ord_val rfl rfl rfl rfl (fun _ h => (Sats.keep [false, false, true] h :)) (val_assign rfl rfl) ?_
            refine ord_nil ?_
            refine thru_on ?_
            refine pk_ret ?_
            refine ret2 rfl rfl rfl fun w s => ⟨(b68, q66), trivial, ?_, s.to fun _ h => fi_shut ?_⟩
            · rfl
            have h1 := (Sats.keep [true, true, false] h)
            have e : (l.drop 5).length = l.length - 5 := List.length_drop
            simp only [fiP, Fi.box, e]
            exact h1
        · skip
          refine Pk.slot 51 (v := .bool false) rfl (congrArg Value.bool (decide_eq_false (by omega))) ?_
          have htl : tailOk l = true := by rw [tailOk, decide_eq_false hpos]; rfl
          refine pk_val rfl rfl rfl (val_move rfl rfl) ?_
          refine pk_guard_no rfl rfl rfl rfl rfl rfl ?_
          refine pk_guard_no rfl rfl rfl rfl rfl rfl ?_
          refine pk_guard_no rfl rfl rfl rfl rfl rfl ?_
          refine pk_guard_no rfl rfl rfl rfl rfl rfl ?_
          refine pk_guard_no rfl rfl rfl rfl rfl rfl ?_
          refine pk_guard_no rfl rfl rfl rfl rfl rfl ?_
          refine pk_guard_no rfl rfl rfl rfl rfl rfl ?_
          refine pk_guard_no rfl rfl rfl rfl rfl rfl ?_
          refine pk_guard_no rfl rfl rfl rfl rfl rfl ?_
          refine pk_val rfl rfl rfl (val_pick rfl rfl rfl rfl) ?_
          refine pk_nil ?_
          refine thru_on ?_
          refine pk_cond_f rfl ?_
          refine pk_skip ?_
          refine thru_on ?_
          refine pk_seq ?_
          refine pk_drawk (.val 0 (.val 1 (.val 2 (.eff 3 (.val 4 (.eff 5 (.val 6 (.val 7 .nil)))))))) 1008 [] rfl (by kernel_rfl) (fun _ _ _ _ _ h => h) ?_
          refine ord_val rfl rfl rfl rfl (fun _ h => h) (val_loads (vs := [.int .i64 (rdB l : Nat), .int .i64 (rdH l : Nat)]) rfl Tryz.underlying236 rfl (by kernel_rfl) rfl (Ent.pure rfl) ((Ent.own 0 rfl).rds (fun j v h => by rw [Nat.zero_add j]; exact h))) ?_
          refine ord_val rfl rfl rfl rfl (fun _ h => h) (val_move rfl rfl) ?_
          refine ord_val rfl rfl rfl rfl (fun _ h => h) (val_slice_l rfl Tryz.underlying28 1 (by kernel_rfl) rfl rfl 5 rfl h5) ?_
          refine ord_eff (eff_callx rfl ⟨_, Tryz.func87, by kernel_rfl, rfl⟩ rfl (fun E w s => slices_Clone_byte_c (l := l.drop 5) s (drop5 hr.cons hsz hnc) (by rw [List.length_drop]) (by omega))) rfl rfl rfl rfl (.inr fun _ _ => (fun _ h => (Sats.keep [false, true] h :))) (fun q66 _ => ?_)
          refine ord_val rfl rfl rfl rfl (fun _ h => (Sats.keep [false, true] h :)) (val_build (z := [.int .i64 0, .int .i64 0, .slice none 0 0]) [(0, 2), (2, 1)] rfl Tryz.underlying239 (by kernel_rfl) (by kernel_rfl) rfl rfl rfl) ?_
          refine ord_eff (eff_box rfl rfl rfl) rfl rfl rfl rfl (.inr fun _ _ => (fun _ h => (Sats.keep [false, false, true] h :))) (fun b68 _ => ?_)
          refine ord_val rfl rfl rfl rfl (fun _ h => (Sats.keep [false, false, true] h :)) (val_assign rfl rfl) ?_
          refine ord_val rfl rfl rfl rfl (fun _ h => (Sats.keep [false, false, true] h :)) (val_assign rfl rfl) ?_
          refine ord_nil ?_
          refine thru_on ?_
          refine pk_ret ?_
          refine ret2 rfl rfl rfl fun w s => ⟨(b68, q66), trivial, ?_, s.to fun _ h => fi_shut ?_⟩
          · rfl
          have h1 := (Sats.keep [true, true, false] h)
          have e : (l.drop 5).length = l.length - 5 := List.length_drop
          simp only [fiP, Fi.box, e]
          exact h1
    · skip
      have hmm : mayF (rdB l : Nat) (rdH l : Nat) = false := by simpa using hmm
      refine Pk.slot 38 (v := .bool true) rfl (by rw [hmm]; rfl) ?_
      refine pk_val rfl rfl rfl (val_move rfl rfl) ?_
      refine pk_guard_no rfl rfl rfl rfl rfl rfl ?_
      refine pk_guard_no rfl rfl rfl rfl rfl rfl ?_
      refine pk_guard_no rfl rfl rfl rfl rfl rfl ?_
      refine pk_guard_no rfl rfl rfl rfl rfl rfl ?_
      refine pk_guard_no rfl rfl rfl rfl rfl rfl ?_
      refine pk_guard_no rfl rfl rfl rfl rfl rfl ?_
      refine pk_val rfl rfl rfl (val_pick rfl rfl rfl rfl) ?_
      refine pk_nil ?_
      refine thru_on ?_
      refine pk_cond_t rfl ?_
      exfalso
      have eno : readOk l = false := by rw [readOk, hmm]; simp
      rw [hok] at eno; cases eno
end Go.Proofs.YtdpckendkklfdaaGreat
