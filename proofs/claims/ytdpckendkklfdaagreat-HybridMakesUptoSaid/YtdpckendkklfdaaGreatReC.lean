/- The walk of rampartref28.Of. -/
import Derived.Test.YtdpckendkklfdaaGreatReB
set_option linter.unusedVariables false
set_option linter.unusedSimpArgs false
set_option maxRecDepth 100000
namespace Go.Proofs.YtdpckendkklfdaaGreat
open Go.RowKit Go.Proofs.Eng
theorem onK_take {on : List Bool} {b h : Nat} {ks : List ByteArray} {k : Nat} (hk : k < ks.length) : onK on b h (ks.take (k + 1)) = onT (onK on b h (ks.take k)) b h (ks.getD k emp) := by
  rw [onK, List.take_succ_eq_append_getElem hk, List.foldl_append]; simp [onK, hk]
theorem onK_len (b h : Nat) : ∀ (ks : List ByteArray) (on : List Bool), (onK on b h ks).length = on.length
  | [], on => rfl
  | t :: r, on => by rw [onK, List.foldl_cons]; exact (onK_len b h r _).trans (onL_len _ _)
theorem rfOk_K {b h : Nat} (hm : mayF (b : Int) (h : Int) = true) (ks : List ByteArray) (A : Option Addr) (c : Nat) : RfOk ⟨b, h, onK (List.replicate b false) b h ks, A, c⟩ := by
  have := (mayF_iff _ _).1 hm
  exact ⟨by show 1 ≤ b; omega, by show b ≤ 65536; omega, by show 1 ≤ h; omega, by show h ≤ 16; omega, by show (onK (List.replicate b false) b h ks).length = b; rw [onK_len, List.length_replicate]⟩
theorem ref28_Of_c {E w : World} {L : List Ch} {v : Ver} {b h : Int} (s : Sat E w L) (hv : Ent L (RdL v.A (v.a.keys.map .string))) (hl : v.a.keys.length ≤ 1099511627776) (hks : ∀ k ∈ v.a.keys, k.size ≤ 4611686018427387904) :
    Calls Tryz.prog 15 #[.agg v.cells.toArray, .int .i64 b, .int .i64 h] w (GivesX E (fun q : Option Addr × Nat => .tuple #[.agg (⟨ofX v.a b h, q.1, q.2⟩ : Sl).cells.toArray, .int .i64 (ofE v.a b h)]) (fun q => slC ⟨ofX v.a b h, q.1, q.2⟩ :: L) (fun _ => True)) := by
  refine enter (vs := [_, _, _]) Tryz.func15 rfl Tryz.ntmps15 rfl s ?_
  refine pk_seq ?_
  refine pk_region ?_
  refine pk_eff (eff_box rfl rfl rfl) rfl rfl rfl (fun b3 _ => ?_)
  refine pk_eff (eff_alloc (z := [.string ⟨#[]⟩, .int .u64 0, .string ⟨#[]⟩, .slice none 0 0]) rfl (by kernel_rfl)) rfl rfl rfl (fun b6 _ => ?_)
  refine pk_val rfl rfl rfl (val_assign rfl rfl) ?_
  refine pk_nil ?_
  refine thru_on ?_
  refine pk_seq ?_
  refine pk_region ?_
  by_cases hm : mayF b h = true
  · skip
    have hmm := (mayF_iff _ _).1 hm
    obtain ⟨bn, rfl⟩ := Int.eq_ofNat_of_zero_le (show 0 ≤ b by omega)
    obtain ⟨hn, rfl⟩ := Int.eq_ofNat_of_zero_le (show 0 ≤ h by omega)
    refine pk_val rfl rfl rfl (val_move rfl rfl) ?_
    refine pk_val rfl rfl rfl (val_move rfl rfl) ?_
    refine pk_eff (eff_callx rfl ⟨_, Tryz.func69, by kernel_rfl, rfl⟩ rfl (fun E w s => ref27_New_c (b := bn) (h := hn) s hm)) rfl rfl rfl (fun q14 _ => ?_)
    refine pk_val rfl rfl rfl (val_move rfl rfl) ?_
    refine pk_val rfl rfl rfl (val_extract rfl rfl rfl) ?_
    refine pk_val rfl rfl rfl (val_extract rfl rfl rfl) ?_
    refine pk_val rfl rfl rfl (val_assign rfl rfl) ?_
    refine pk_val rfl rfl rfl (val_assign rfl rfl) ?_
    refine pk_nil ?_
    refine thru_on ?_
    refine pk_seq ?_
    refine pk_seq ?_
    refine pk_region ?_
    refine pk_val rfl rfl rfl (val_move rfl rfl) ?_
    refine pk_val rfl rfl rfl (val_neq rfl rfl rfl) ?_
    refine pk_nil ?_
    refine thru_on ?_
    refine pk_cond_f rfl ?_
    refine pk_skip ?_
    refine thru_on ?_
    refine pk_seq ?_
    refine pk_seq ?_
    refine pk_region ?_
    refine pk_val rfl rfl rfl (val_fieldAddr rfl Tryz.underlying26 1 1 (by kernel_rfl) (by decide) rfl (Ent.pure rfl)) ?_
    refine pk_val rfl rfl rfl (val_load (v := .int .u64 v.a.id) rfl Tryz.underlying23 rfl rfl ((Ent.own 2 rfl).rd rfl)) ?_
    refine pk_val rfl rfl rfl (val_eql rfl rfl rfl) ?_
    refine pk_val rfl rfl rfl (val_move rfl rfl) ?_
    by_cases h0 : v.a.id = 0
    · skip
      refine Pk.slot 23 (v := .bool true) rfl (congrArg Value.bool (decide_eq_true h0)) ?_
      refine pk_guard_yes rfl rfl rfl ?_
      refine pk_val rfl rfl rfl (val_fieldAddr rfl Tryz.underlying26 2 1 (by kernel_rfl) (by decide) rfl (Ent.pure rfl)) ?_
      refine pk_guard_yes rfl rfl rfl ?_
      refine pk_val rfl rfl rfl (val_load (v := .string v.a.val) rfl Tryz.underlying9 rfl rfl ((Ent.own 2 rfl).rd rfl)) ?_
      refine pk_guard_yes rfl rfl rfl ?_
      refine pk_val rfl rfl rfl (val_str_eql rfl rfl rfl) ?_
      refine pk_val rfl rfl rfl (val_pick rfl rfl rfl rfl) ?_
      refine pk_val rfl rfl rfl (val_move rfl rfl) ?_
      by_cases h2 : v.a.val = ⟨#[]⟩
      · skip
        refine Pk.slot 28 (v := .bool true) rfl (congrArg Value.bool (decide_eq_true h2)) ?_
        refine pk_guard_yes rfl rfl rfl ?_
        refine pk_val rfl rfl rfl (val_fieldAddr rfl Tryz.underlying26 3 1 (by kernel_rfl) (by decide) rfl (Ent.pure rfl)) ?_
        refine pk_guard_yes rfl rfl rfl ?_
        refine pk_val rfl rfl rfl (val_load (v := .slice v.A v.a.keys.length v.c) rfl Tryz.underlying24 rfl rfl ((Ent.own 2 rfl).rd rfl)) ?_
        refine pk_guard_yes rfl rfl rfl ?_
        refine pk_val rfl rfl rfl (val_len_slice rfl Tryz.underlying24 rfl) ?_
        refine pk_guard_yes rfl rfl rfl ?_
        refine pk_val rfl rfl rfl (val_eql rfl rfl rfl) ?_
        refine pk_val rfl rfl rfl (val_pick rfl rfl rfl rfl) ?_
        refine pk_nil ?_
        refine thru_on ?_
        refine pk_if rfl (fun h3 => ?_) (fun h3 => ?_)
        · skip
          refine pk_seq ?_
          refine pk_region ?_
          refine pk_val rfl rfl rfl (val_fieldAddr rfl Tryz.underlying26 0 1 (by kernel_rfl) (by decide) rfl (Ent.pure rfl)) ?_
          refine pk_val rfl rfl rfl (val_load (v := .string v.a.key) rfl Tryz.underlying9 rfl rfl ((Ent.own 2 rfl).rd rfl)) ?_
          refine pk_val rfl rfl rfl (val_build (z := [.string ⟨#[]⟩, .int .u64 0, .string ⟨#[]⟩, .slice none 0 0]) [(0, 1), (1, 1), (2, 1), (3, 1)] rfl Tryz.underlying36 (by kernel_rfl) (by kernel_rfl) rfl rfl rfl) ?_
          refine pk_eff0 (eff_storeW 1 rfl rfl rfl rfl rfl (by kernel_rfl) rfl rfl rfl) rfl rfl (fun _ _ => ?_)
          refine pk_val rfl rfl rfl (val_assign rfl rfl) ?_
          refine pk_nil ?_
          refine thru_on ?_
          refine pk_ret ?_
          refine thru_ret ?_
          have hok : ofOk v.a bn hn = true := by rw [ofOk, hm, if_pos h0, decide_eq_true h2, decide_eq_true (show v.a.keys.length = 0 by omega)]; rfl
          have e1 : ofX v.a bn hn = ⟨v.a.key, 0, ⟨#[]⟩, []⟩ := by rw [ofX, if_pos hok, if_pos h0]
          have e2 : ofE v.a bn hn = 0 := by rw [ofE, if_pos hok]
          rw [e1, e2]
          refine ret2c rfl Tryz.underlying36 rfl (by kernel_rfl) rfl rfl (Ent.pure rfl) (Ent.own 1 rfl) fun w s => ⟨(none, 0), trivial, rfl, s.to fun _ h => Sats.nilrow (Sats.keep [false, false, false] h)⟩
        · skip
          refine pk_skip ?_
          refine thru_on ?_
          refine pk_seq ?_
          refine pk_seq ?_
          refine pk_region ?_
          refine pk_val rfl rfl rfl (val_fieldAddr rfl Tryz.underlying26 1 1 (by kernel_rfl) (by decide) rfl (Ent.pure rfl)) ?_
          refine pk_val rfl rfl rfl (val_load (v := .int .u64 v.a.id) rfl Tryz.underlying23 rfl rfl ((Ent.own 2 rfl).rd rfl)) ?_
          refine pk_val rfl rfl rfl (val_lss rfl rfl rfl) ?_
          refine Pk.slot 39 (v := .bool true) rfl (congrArg Value.bool (decide_eq_true (show v.a.id < 65536 by omega))) ?_
          refine pk_val rfl rfl rfl (val_move rfl rfl) ?_
          refine pk_guard_no rfl rfl rfl rfl rfl rfl ?_
          refine pk_guard_no rfl rfl rfl rfl rfl rfl ?_
          refine pk_guard_no rfl rfl rfl rfl rfl rfl ?_
          refine pk_guard_no rfl rfl rfl rfl rfl rfl ?_
          refine pk_val rfl rfl rfl (val_pick rfl rfl rfl rfl) ?_
          refine pk_val rfl rfl rfl (val_move rfl rfl) ?_
          refine pk_guard_no rfl rfl rfl rfl rfl rfl ?_
          refine pk_guard_no rfl rfl rfl rfl rfl rfl ?_
          refine pk_guard_no rfl rfl rfl rfl rfl rfl ?_
          refine pk_guard_no rfl rfl rfl rfl rfl rfl ?_
          refine pk_val rfl rfl rfl (val_pick rfl rfl rfl rfl) ?_
          refine pk_val rfl rfl rfl (val_move rfl rfl) ?_
          refine pk_guard_no rfl rfl rfl rfl rfl rfl ?_
          refine pk_guard_no rfl rfl rfl rfl rfl rfl ?_
          refine pk_guard_no rfl rfl rfl rfl rfl rfl ?_
          refine pk_guard_no rfl rfl rfl rfl rfl rfl ?_
          refine pk_val rfl rfl rfl (val_pick rfl rfl rfl rfl) ?_
          refine pk_val rfl rfl rfl (val_move rfl rfl) ?_
          refine pk_guard_no rfl rfl rfl rfl rfl rfl ?_
          refine pk_guard_no rfl rfl rfl rfl rfl rfl ?_
          refine pk_guard_no rfl rfl rfl rfl rfl rfl ?_
          refine pk_guard_no rfl rfl rfl rfl rfl rfl ?_
          refine pk_guard_no rfl rfl rfl rfl rfl rfl ?_
          refine pk_guard_no rfl rfl rfl rfl rfl rfl ?_
          refine pk_val rfl rfl rfl (val_pick rfl rfl rfl rfl) ?_
          refine pk_nil ?_
          refine thru_on ?_
          refine pk_cond_t rfl ?_
          refine pk_seq ?_
          refine pk_region ?_
          refine pk_val rfl rfl rfl (val_build (z := [.string ⟨#[]⟩, .int .u64 0, .string ⟨#[]⟩, .slice none 0 0]) [(0, 1), (1, 1), (2, 1), (3, 1)] rfl Tryz.underlying36 (by kernel_rfl) (by kernel_rfl) rfl rfl rfl) ?_
          refine pk_eff0 (eff_storeW 1 rfl rfl rfl rfl rfl (by kernel_rfl) rfl rfl rfl) rfl rfl (fun _ _ => ?_)
          refine pk_val rfl rfl rfl (val_assign rfl rfl) ?_
          refine pk_nil ?_
          refine thru_on ?_
          refine pk_ret ?_
          refine thru_ret ?_
          have eno : ofOk v.a bn hn = false := by rw [ofOk, hm, if_pos h0, decide_eq_false (show ¬ v.a.keys.length = 0 by omega)]; simp
          have e1 : ofX v.a bn hn = sx0 := by rw [ofX, eno]; rfl
          have e2 : ofE v.a bn hn = 1 := by rw [ofE, eno]; rfl
          rw [e1, e2]
          refine ret2c rfl Tryz.underlying36 rfl (by kernel_rfl) rfl rfl (Ent.pure rfl) (Ent.own 1 rfl) fun w s => ⟨(none, 0), trivial, rfl, s.to fun _ h => Sats.nilrow (Sats.keep [false, false, false] h)⟩
      · skip
        refine Pk.slot 28 (v := .bool false) rfl (congrArg Value.bool (decide_eq_false h2)) ?_
        refine pk_guard_no rfl rfl rfl rfl rfl rfl ?_
        refine pk_guard_no rfl rfl rfl rfl rfl rfl ?_
        refine pk_guard_no rfl rfl rfl rfl rfl rfl ?_
        refine pk_guard_no rfl rfl rfl rfl rfl rfl ?_
        refine pk_val rfl rfl rfl (val_pick rfl rfl rfl rfl) ?_
        refine pk_nil ?_
        refine thru_on ?_
        refine pk_cond_f rfl ?_
        refine pk_skip ?_
        refine thru_on ?_
        refine pk_seq ?_
        refine pk_seq ?_
        refine pk_region ?_
        refine pk_val rfl rfl rfl (val_fieldAddr rfl Tryz.underlying26 1 1 (by kernel_rfl) (by decide) rfl (Ent.pure rfl)) ?_
        refine pk_val rfl rfl rfl (val_load (v := .int .u64 v.a.id) rfl Tryz.underlying23 rfl rfl ((Ent.own 2 rfl).rd rfl)) ?_
        refine pk_val rfl rfl rfl (val_lss rfl rfl rfl) ?_
        refine Pk.slot 39 (v := .bool true) rfl (congrArg Value.bool (decide_eq_true (show v.a.id < 65536 by omega))) ?_
        refine pk_val rfl rfl rfl (val_move rfl rfl) ?_
        refine pk_guard_no rfl rfl rfl rfl rfl rfl ?_
        refine pk_guard_no rfl rfl rfl rfl rfl rfl ?_
        refine pk_guard_no rfl rfl rfl rfl rfl rfl ?_
        refine pk_guard_no rfl rfl rfl rfl rfl rfl ?_
        refine pk_val rfl rfl rfl (val_pick rfl rfl rfl rfl) ?_
        refine pk_val rfl rfl rfl (val_move rfl rfl) ?_
        refine pk_guard_no rfl rfl rfl rfl rfl rfl ?_
        refine pk_guard_no rfl rfl rfl rfl rfl rfl ?_
        refine pk_guard_no rfl rfl rfl rfl rfl rfl ?_
        refine pk_guard_no rfl rfl rfl rfl rfl rfl ?_
        refine pk_val rfl rfl rfl (val_pick rfl rfl rfl rfl) ?_
        refine pk_val rfl rfl rfl (val_move rfl rfl) ?_
        refine pk_guard_no rfl rfl rfl rfl rfl rfl ?_
        refine pk_guard_no rfl rfl rfl rfl rfl rfl ?_
        refine pk_guard_no rfl rfl rfl rfl rfl rfl ?_
        refine pk_guard_no rfl rfl rfl rfl rfl rfl ?_
        refine pk_val rfl rfl rfl (val_pick rfl rfl rfl rfl) ?_
        refine pk_val rfl rfl rfl (val_move rfl rfl) ?_
        refine pk_guard_no rfl rfl rfl rfl rfl rfl ?_
        refine pk_guard_no rfl rfl rfl rfl rfl rfl ?_
        refine pk_guard_no rfl rfl rfl rfl rfl rfl ?_
        refine pk_guard_no rfl rfl rfl rfl rfl rfl ?_
        refine pk_guard_no rfl rfl rfl rfl rfl rfl ?_
        refine pk_guard_no rfl rfl rfl rfl rfl rfl ?_
        refine pk_val rfl rfl rfl (val_pick rfl rfl rfl rfl) ?_
        refine pk_nil ?_
        refine thru_on ?_
        refine pk_cond_t rfl ?_
        refine pk_seq ?_
        refine pk_region ?_
        refine pk_val rfl rfl rfl (val_build (z := [.string ⟨#[]⟩, .int .u64 0, .string ⟨#[]⟩, .slice none 0 0]) [(0, 1), (1, 1), (2, 1), (3, 1)] rfl Tryz.underlying36 (by kernel_rfl) (by kernel_rfl) rfl rfl rfl) ?_
        refine pk_eff0 (eff_storeW 1 rfl rfl rfl rfl rfl (by kernel_rfl) rfl rfl rfl) rfl rfl (fun _ _ => ?_)
        refine pk_val rfl rfl rfl (val_assign rfl rfl) ?_
        refine pk_nil ?_
        refine thru_on ?_
        refine pk_ret ?_
        refine thru_ret ?_
        have eno : ofOk v.a bn hn = false := by rw [ofOk, hm, if_pos h0, decide_eq_false h2]; rfl
        have e1 : ofX v.a bn hn = sx0 := by rw [ofX, eno]; rfl
        have e2 : ofE v.a bn hn = 1 := by rw [ofE, eno]; rfl
        rw [e1, e2]
        refine ret2c rfl Tryz.underlying36 rfl (by kernel_rfl) rfl rfl (Ent.pure rfl) (Ent.own 1 rfl) fun w s => ⟨(none, 0), trivial, rfl, s.to fun _ h => Sats.nilrow (Sats.keep [false, false, false] h)⟩
    · skip
      refine Pk.slot 23 (v := .bool false) rfl (congrArg Value.bool (decide_eq_false h0)) ?_
      refine pk_guard_no rfl rfl rfl rfl rfl rfl ?_
      refine pk_guard_no rfl rfl rfl rfl rfl rfl ?_
      refine pk_guard_no rfl rfl rfl rfl rfl rfl ?_
      refine pk_val rfl rfl rfl (val_pick rfl rfl rfl rfl) ?_
      refine pk_val rfl rfl rfl (val_move rfl rfl) ?_
      refine pk_guard_no rfl rfl rfl rfl rfl rfl ?_
      refine pk_guard_no rfl rfl rfl rfl rfl rfl ?_
      refine pk_guard_no rfl rfl rfl rfl rfl rfl ?_
      refine pk_guard_no rfl rfl rfl rfl rfl rfl ?_
      refine pk_val rfl rfl rfl (val_pick rfl rfl rfl rfl) ?_
      refine pk_nil ?_
      refine thru_on ?_
      refine pk_cond_f rfl ?_
      refine pk_skip ?_
      refine thru_on ?_
      refine pk_seq ?_
      refine pk_seq ?_
      refine pk_region ?_
      refine pk_val rfl rfl rfl (val_fieldAddr rfl Tryz.underlying26 1 1 (by kernel_rfl) (by decide) rfl (Ent.pure rfl)) ?_
      refine pk_val rfl rfl rfl (val_load (v := .int .u64 v.a.id) rfl Tryz.underlying23 rfl rfl ((Ent.own 2 rfl).rd rfl)) ?_
      refine pk_val rfl rfl rfl (val_lss rfl rfl rfl) ?_
      refine pk_val rfl rfl rfl (val_move rfl rfl) ?_
      by_cases hid : 65536 ≤ v.a.id
      · skip
        have hid : decide (65536 ≤ v.a.id) = true := decide_eq_true hid
        refine Pk.slot 40 (v := .bool false) rfl (congrArg Value.bool (decide_eq_false (by have := of_decide_eq_true hid; omega))) ?_
        refine pk_guard_yes rfl rfl rfl ?_
        refine pk_val rfl rfl rfl (val_fieldAddr rfl Tryz.underlying26 3 1 (by kernel_rfl) (by decide) rfl (Ent.pure rfl)) ?_
        refine pk_guard_yes rfl rfl rfl ?_
        refine pk_val rfl rfl rfl (val_load (v := .slice v.A v.a.keys.length v.c) rfl Tryz.underlying24 rfl rfl ((Ent.own 2 rfl).rd rfl)) ?_
        refine pk_guard_yes rfl rfl rfl ?_
        refine pk_val rfl rfl rfl (val_len_slice rfl Tryz.underlying24 rfl) ?_
        refine pk_guard_yes rfl rfl rfl ?_
        refine pk_val rfl rfl rfl (val_lss rfl rfl rfl) ?_
        refine pk_val rfl rfl rfl (val_pick rfl rfl rfl rfl) ?_
        refine pk_val rfl rfl rfl (val_move rfl rfl) ?_
        by_cases hl1 : 1 ≤ v.a.keys.length
        · skip
          refine Pk.slot 46 (v := .bool false) rfl (congrArg Value.bool (decide_eq_false (by omega))) ?_
          refine pk_guard_yes rfl rfl rfl ?_
          refine pk_val rfl rfl rfl (val_fieldAddr rfl Tryz.underlying26 3 1 (by kernel_rfl) (by decide) rfl (Ent.pure rfl)) ?_
          refine pk_guard_yes rfl rfl rfl ?_
          refine pk_val rfl rfl rfl (val_load (v := .slice v.A v.a.keys.length v.c) rfl Tryz.underlying24 rfl rfl ((Ent.own 2 rfl).rd rfl)) ?_
          refine pk_guard_yes rfl rfl rfl ?_
          refine pk_val rfl rfl rfl (val_len_slice rfl Tryz.underlying24 rfl) ?_
          refine pk_guard_yes rfl rfl rfl ?_
          refine pk_val rfl rfl rfl (val_gtr rfl rfl rfl) ?_
          refine pk_val rfl rfl rfl (val_pick rfl rfl rfl rfl) ?_
          refine pk_val rfl rfl rfl (val_move rfl rfl) ?_
          by_cases hl2 : v.a.keys.length ≤ 1024
          · skip
            refine Pk.slot 52 (v := .bool false) rfl (congrArg Value.bool (decide_eq_false (by omega))) ?_
            refine pk_guard_yes rfl rfl rfl ?_
            refine pk_val rfl rfl rfl (val_fieldAddr rfl Tryz.underlying26 3 1 (by kernel_rfl) (by decide) rfl (Ent.pure rfl)) ?_
            refine pk_guard_yes rfl rfl rfl ?_
            refine pk_val rfl rfl rfl (val_load (v := .slice v.A v.a.keys.length v.c) rfl Tryz.underlying24 rfl rfl ((Ent.own 2 rfl).rd rfl)) ?_
            refine pk_guard_yes rfl rfl rfl ?_
            refine pk_eff (eff_call1 rfl ⟨_, Tryz.func70, by kernel_rfl, rfl⟩ rfl (fun E w s => ref04_Rising_c s hv.cons.cons.cons rfl hl)) rfl rfl rfl (fun _ _ => ?_)
            refine pk_guard_yes rfl rfl rfl ?_
            refine pk_val rfl rfl rfl (val_not rfl rfl) ?_
            refine pk_val rfl rfl rfl (val_pick rfl rfl rfl rfl) ?_
            refine pk_val rfl rfl rfl (val_move rfl rfl) ?_
            by_cases hris : riseB v.a.keys = true
            · skip
              refine Pk.slot 58 (v := .bool false) rfl (by rw [hris]; rfl) ?_
              have hhr : hrisB v.a.keys = true := by rw [hrisB, hris, decide_eq_true hl1, decide_eq_true hl2]; rfl
              refine pk_guard_yes rfl rfl rfl ?_
              refine pk_val rfl rfl rfl (val_fieldAddr rfl Tryz.underlying26 3 1 (by kernel_rfl) (by decide) rfl (Ent.pure rfl)) ?_
              refine pk_guard_yes rfl rfl rfl ?_
              refine pk_val rfl rfl rfl (val_load (v := .slice v.A v.a.keys.length v.c) rfl Tryz.underlying24 rfl rfl ((Ent.own 2 rfl).rd rfl)) ?_
              refine pk_guard_yes rfl rfl rfl ?_
              refine pk_val rfl rfl rfl (val_fieldAddr rfl Tryz.underlying26 0 1 (by kernel_rfl) (by decide) rfl (Ent.pure rfl)) ?_
              refine pk_guard_yes rfl rfl rfl ?_
              refine pk_val rfl rfl rfl (val_load (v := .string v.a.key) rfl Tryz.underlying9 rfl rfl ((Ent.own 2 rfl).rd rfl)) ?_
              refine pk_guard_yes rfl rfl rfl ?_
              refine pk_eff (eff_call1 rfl ⟨_, Tryz.func71, by kernel_rfl, rfl⟩ rfl (fun E w s => ref04_Has_c s hv.cons.cons.cons rfl hl)) rfl rfl rfl (fun _ _ => ?_)
              refine pk_guard_yes rfl rfl rfl ?_
              refine pk_val rfl rfl rfl (val_not rfl rfl) ?_
              refine pk_val rfl rfl rfl (val_pick rfl rfl rfl rfl) ?_
              refine pk_nil ?_
              refine thru_on ?_
              refine pk_ifn rfl (fun h9 => ?_) (fun h9 => ?_)
              · skip
                refine pk_seq ?_
                refine pk_region ?_
                refine pk_val rfl rfl rfl (val_build (z := [.string ⟨#[]⟩, .int .u64 0, .string ⟨#[]⟩, .slice none 0 0]) [(0, 1), (1, 1), (2, 1), (3, 1)] rfl Tryz.underlying36 (by kernel_rfl) (by kernel_rfl) rfl rfl rfl) ?_
                refine pk_eff0 (eff_storeW 1 rfl rfl rfl rfl rfl (by kernel_rfl) rfl rfl rfl) rfl rfl (fun _ _ => ?_)
                refine pk_val rfl rfl rfl (val_assign rfl rfl) ?_
                refine pk_nil ?_
                refine thru_on ?_
                refine pk_ret ?_
                refine thru_ret ?_
                have eno : ofOk v.a bn hn = false := by rw [ofOk, hm, if_neg h0, hid, hhr, show memB v.a.keys v.a.key = false by rw [hris] at h9; simpa using h9]; rfl
                have e1 : ofX v.a bn hn = sx0 := by rw [ofX, eno]; rfl
                have e2 : ofE v.a bn hn = 1 := by rw [ofE, eno]; rfl
                rw [e1, e2]
                refine ret2c rfl Tryz.underlying36 rfl (by kernel_rfl) rfl rfl (Ent.pure rfl) (Ent.own 1 rfl) fun w s => ⟨(none, 0), trivial, rfl, s.to fun _ h => Sats.nilrow (Sats.keep [false, false, false] h)⟩
              · skip
                refine pk_skip ?_
                refine thru_on ?_
                have hmem : memB v.a.keys v.a.key = true := by rw [hris] at h9; simpa using h9
                have hok : ofOk v.a bn hn = true := by rw [ofOk, hm, if_neg h0, hid, hhr, hmem]; rfl
                have e1 : ofX v.a bn hn = ⟨v.a.key, v.a.id, v.a.val, filB bn hn (packK bn (onK (List.replicate bn false) bn hn v.a.keys) bn)⟩ := by rw [ofX, if_pos hok, if_neg h0, pack_addK (by omega)]; rfl
                have e2 : ofE v.a bn hn = 0 := by rw [ofE, if_pos hok]
                rw [e1, e2]
                refine pk_seq ?_
                refine pk_seq ?_
                refine pk_region ?_
                refine pk_val rfl rfl rfl (val_assign rfl rfl) ?_
                refine pk_nil ?_
                refine thru_on ?_
                refine pk_block ?_
                refine pk_loop (α := Nat) (0) (fun k => [(3, ptr (some ⟨b3, 0, none⟩) 0), (6, ptr (some ⟨b6, 0, none⟩) 0), (8, ptr (some ⟨q14.1, 0, none⟩) 0), (10, .int .i64 (k : Nat))]) (fun k => (rfCh q14.1 ⟨bn, hn, onK (List.replicate bn false) bn hn (v.a.keys.take k), some ⟨q14.2, 0, none⟩, bn⟩) :: (own (some ⟨b6, 0, none⟩) 1 1 36 4 [.string ⟨#[]⟩, .int .u64 0, .string ⟨#[]⟩, .slice none 0 0]) :: (own (some ⟨b3, 0, none⟩) 1 1 26 4 v.cells) :: L) (fun k => k ≤ v.a.keys.length) (fun k => v.a.keys.length - k) ?_ ?_ ?_ ?_
                · (try dsimp only) <;> exact Nat.zero_le _
                · exact ⟨(Sub.cons rfl (by first | rfl | (congr 1; omega) | simp) (Sub.cons rfl (by first | rfl | (congr 1; omega) | simp) (Sub.cons rfl (by first | rfl | (congr 1; omega) | simp) (Sub.cons rfl (by first | rfl | (congr 1; omega) | simp) (Sub.nil _))))), rfl⟩
                · exact (fun _ h => h)
                rintro k hk0
                refine pk_seq ?_
                refine pk_seq ?_
                refine pk_region ?_
                refine pk_val rfl rfl rfl (val_move rfl rfl) ?_
                refine pk_val rfl rfl rfl (val_fieldAddr rfl Tryz.underlying26 3 1 (by kernel_rfl) (by decide) rfl (Ent.pure rfl)) ?_
                refine pk_val rfl rfl rfl (val_load (v := .slice v.A v.a.keys.length v.c) rfl Tryz.underlying24 rfl rfl ((Ent.own 2 rfl).rd rfl)) ?_
                refine pk_val rfl rfl rfl (val_len_slice rfl Tryz.underlying24 rfl) ?_
                refine pk_val rfl rfl rfl (val_lss rfl rfl rfl) ?_
                refine pk_nil ?_
                refine thru_on ?_
                refine pk_if rfl (fun h10 => ?_) (fun h10 => ?_)
                · skip
                  refine pk_skip ?_
                  refine thru_on ?_
                  have hk : k < v.a.keys.length := by omega
                  refine Pk.tells (hv.cons.cons.cons.some_of (by rw [List.length_map]; omega)) fun hA => ?_
                  refine pk_seq ?_
                  refine pk_block ?_
                  refine pk_region ?_
                  refine pk_val rfl rfl rfl (val_move rfl rfl) ?_
                  refine pk_val rfl rfl rfl (val_fieldAddr rfl Tryz.underlying26 3 1 (by kernel_rfl) (by decide) rfl (Ent.pure rfl)) ?_
                  refine pk_val rfl rfl rfl (val_load (v := .slice v.A v.a.keys.length v.c) rfl Tryz.underlying24 rfl rfl ((Ent.own 2 rfl).rd rfl)) ?_
                  refine pk_val rfl rfl rfl (val_move rfl rfl) ?_
                  refine pk_val rfl rfl rfl (val_indexAddr rfl Tryz.underlying24 1 (by kernel_rfl) rfl rfl k rfl hk (Ent.pure hA)) ?_
                  refine pk_val rfl rfl rfl (val_load rfl Tryz.underlying9 rfl rfl (hv.cons.cons.cons.rd (get_map emp hk))) ?_
                  refine pk_eff (eff_call1 rfl ⟨_, Tryz.func72, by kernel_rfl, rfl⟩ rfl (fun E w s => ref27_Add_c (f := ⟨bn, hn, onK (List.replicate bn false) bn hn (v.a.keys.take k), some ⟨q14.2, 0, none⟩, bn⟩) s (rfOk_K hm _ _ _) (hks _ (getD_mem emp hk)))) rfl rfl rfl (fun _ _ => ?_)
                  refine pk_nil ?_
                  refine in_on ?_
                  refine thru_on ?_
                  refine pk_region ?_
                  refine pk_val rfl rfl rfl (val_move rfl rfl) ?_
                  refine pk_val rfl rfl rfl (val_add rfl rfl rfl (by omega)) ?_
                  refine pk_val rfl rfl rfl (val_assign rfl rfl) ?_
                  refine pk_nil ?_
                  refine thru_on ?_
                  refine pk_next (x := k) (k + 1) ?_ ?_ ?_ ?_
                  · (try dsimp only) <;> exact hk
                  · (try dsimp only); exact (by omega)
                  · exact ⟨(Sub.cons rfl (by first | rfl | (congr 1; omega) | simp) (Sub.cons rfl (by first | rfl | (congr 1; omega) | simp) (Sub.cons rfl (by first | rfl | (congr 1; omega) | simp) (Sub.cons rfl (by first | rfl | (congr 1; omega) | simp) (Sub.nil _))))), rfl⟩
                  · exact (fun _ h => by rw [onK_take hk]; exact h)
                · skip
                  have hkk : k = v.a.keys.length := by omega
                  rw [hkk, List.take_length]
                  refine pk_exit ?_
                  refine thru ?_
                  refine thru ?_
                  refine pk_here ?_
                  refine thru_on ?_
                  refine pk_seq ?_
                  refine pk_drawk (.val 0 (.val 1 (.val 2 (.val 3 (.val 4 (.val 5 (.val 6 (.eff 7 (.val 8 (.eff 9 (.val 10 .nil))))))))))) 1011 [true, false, true] rfl (by kernel_rfl) (fun _ _ _ _ _ h => h) ?_
                  refine ord_val rfl rfl rfl rfl (fun _ h => (Sats.keep [true, false, true] h :)) (val_fieldAddr rfl Tryz.underlying26 0 1 (by kernel_rfl) (by decide) rfl (Ent.pure rfl)) ?_
                  refine ord_val rfl rfl rfl rfl (fun _ h => (Sats.keep [true, false, true] h :)) (val_load (v := .string v.a.key) rfl Tryz.underlying9 rfl rfl ((Ent.own 1 rfl).rd rfl)) ?_
                  refine ord_val rfl rfl rfl rfl (fun _ h => (Sats.keep [true, false, true] h :)) (val_fieldAddr rfl Tryz.underlying26 1 1 (by kernel_rfl) (by decide) rfl (Ent.pure rfl)) ?_
                  refine ord_val rfl rfl rfl rfl (fun _ h => (Sats.keep [true, false, true] h :)) (val_load (v := .int .u64 v.a.id) rfl Tryz.underlying23 rfl rfl ((Ent.own 1 rfl).rd rfl)) ?_
                  refine ord_val rfl rfl rfl rfl (fun _ h => (Sats.keep [true, false, true] h :)) (val_fieldAddr rfl Tryz.underlying26 2 1 (by kernel_rfl) (by decide) rfl (Ent.pure rfl)) ?_
                  refine ord_val rfl rfl rfl rfl (fun _ h => (Sats.keep [true, false, true] h :)) (val_load (v := .string v.a.val) rfl Tryz.underlying9 rfl rfl ((Ent.own 1 rfl).rd rfl)) ?_
                  refine ord_val rfl rfl rfl rfl (fun _ h => (Sats.keep [true, false, true] h :)) (val_move rfl rfl) ?_
                  refine ord_eff (eff_callx rfl ⟨_, Tryz.func73, by kernel_rfl, rfl⟩ rfl (fun E w s => ref27_Bytes_c (f := ⟨bn, hn, onK (List.replicate bn false) bn hn (v.a.keys), some ⟨q14.2, 0, none⟩, bn⟩) s (rfOk_K hm _ _ _))) rfl rfl rfl rfl (.inr fun _ _ => (fun _ h => (Sats.keep [false, true, false, true] h :))) (fun q88 _ => ?_)
                  refine ord_val rfl rfl rfl rfl (fun _ h => (Sats.keep [false, true, false, true] h :)) (val_build (z := [.string ⟨#[]⟩, .int .u64 0, .string ⟨#[]⟩, .slice none 0 0]) [(0, 1), (1, 1), (2, 1), (3, 1)] rfl Tryz.underlying36 (by kernel_rfl) (by kernel_rfl) rfl rfl rfl) ?_
                  refine ord_eff0 (eff_storeW 2 rfl rfl rfl rfl rfl (by kernel_rfl) rfl rfl rfl) rfl rfl rfl (.inr fun _ _ => (fun _ h => (Sats.keep [false, true, false, true] h :))) (fun _ _ => ?_)
                  refine ord_val rfl rfl rfl rfl (fun _ h => (Sats.keep [false, true, false, true] h :)) (val_assign rfl rfl) ?_
                  refine ord_nil ?_
                  refine thru_on ?_
                  refine pk_ret ?_
                  refine ret2c rfl Tryz.underlying36 rfl (by kernel_rfl) rfl rfl (Ent.pure rfl) (Ent.own 2 rfl) fun w s => ⟨q88, trivial, rfl, s.to (fun _ h => Sats.keep [true, false, false, false] h)⟩
            · skip
              have hris' : riseB v.a.keys = false := by simpa using hris
              refine Pk.slot 58 (v := .bool true) rfl (by rw [hris']; rfl) ?_
              have hhr : hrisB v.a.keys = false := by rw [hrisB, hris']; rfl
              refine pk_guard_no rfl rfl rfl rfl rfl rfl ?_
              refine pk_guard_no rfl rfl rfl rfl rfl rfl ?_
              refine pk_guard_no rfl rfl rfl rfl rfl rfl ?_
              refine pk_guard_no rfl rfl rfl rfl rfl rfl ?_
              refine pk_guard_no rfl rfl rfl rfl rfl rfl ?_
              refine pk_guard_no rfl rfl rfl rfl rfl rfl ?_
              refine pk_val rfl rfl rfl (val_pick rfl rfl rfl rfl) ?_
              refine pk_nil ?_
              refine thru_on ?_
              refine pk_cond_t rfl ?_
              refine pk_seq ?_
              refine pk_region ?_
              refine pk_val rfl rfl rfl (val_build (z := [.string ⟨#[]⟩, .int .u64 0, .string ⟨#[]⟩, .slice none 0 0]) [(0, 1), (1, 1), (2, 1), (3, 1)] rfl Tryz.underlying36 (by kernel_rfl) (by kernel_rfl) rfl rfl rfl) ?_
              refine pk_eff0 (eff_storeW 1 rfl rfl rfl rfl rfl (by kernel_rfl) rfl rfl rfl) rfl rfl (fun _ _ => ?_)
              refine pk_val rfl rfl rfl (val_assign rfl rfl) ?_
              refine pk_nil ?_
              refine thru_on ?_
              refine pk_ret ?_
              refine thru_ret ?_
              have eno : ofOk v.a bn hn = false := by rw [ofOk, hm, if_neg h0, hid, hhr]; rfl
              have e1 : ofX v.a bn hn = sx0 := by rw [ofX, eno]; rfl
              have e2 : ofE v.a bn hn = 1 := by rw [ofE, eno]; rfl
              rw [e1, e2]
              refine ret2c rfl Tryz.underlying36 rfl (by kernel_rfl) rfl rfl (Ent.pure rfl) (Ent.own 1 rfl) fun w s => ⟨(none, 0), trivial, rfl, s.to fun _ h => Sats.nilrow (Sats.keep [false, false, false] h)⟩
          · skip
            refine Pk.slot 52 (v := .bool true) rfl (congrArg Value.bool (decide_eq_true (by omega))) ?_
            have hhr : hrisB v.a.keys = false := by rw [hrisB, decide_eq_false hl2]; simp
            refine pk_guard_no rfl rfl rfl rfl rfl rfl ?_
            refine pk_guard_no rfl rfl rfl rfl rfl rfl ?_
            refine pk_guard_no rfl rfl rfl rfl rfl rfl ?_
            refine pk_guard_no rfl rfl rfl rfl rfl rfl ?_
            refine pk_val rfl rfl rfl (val_pick rfl rfl rfl rfl) ?_
            refine pk_val rfl rfl rfl (val_move rfl rfl) ?_
            refine pk_guard_no rfl rfl rfl rfl rfl rfl ?_
            refine pk_guard_no rfl rfl rfl rfl rfl rfl ?_
            refine pk_guard_no rfl rfl rfl rfl rfl rfl ?_
            refine pk_guard_no rfl rfl rfl rfl rfl rfl ?_
            refine pk_guard_no rfl rfl rfl rfl rfl rfl ?_
            refine pk_guard_no rfl rfl rfl rfl rfl rfl ?_
            refine pk_val rfl rfl rfl (val_pick rfl rfl rfl rfl) ?_
            refine pk_nil ?_
            refine thru_on ?_
            refine pk_cond_t rfl ?_
            refine pk_seq ?_
            refine pk_region ?_
            refine pk_val rfl rfl rfl (val_build (z := [.string ⟨#[]⟩, .int .u64 0, .string ⟨#[]⟩, .slice none 0 0]) [(0, 1), (1, 1), (2, 1), (3, 1)] rfl Tryz.underlying36 (by kernel_rfl) (by kernel_rfl) rfl rfl rfl) ?_
            refine pk_eff0 (eff_storeW 1 rfl rfl rfl rfl rfl (by kernel_rfl) rfl rfl rfl) rfl rfl (fun _ _ => ?_)
            refine pk_val rfl rfl rfl (val_assign rfl rfl) ?_
            refine pk_nil ?_
            refine thru_on ?_
            refine pk_ret ?_
            refine thru_ret ?_
            have eno : ofOk v.a bn hn = false := by rw [ofOk, hm, if_neg h0, hid, hhr]; rfl
            have e1 : ofX v.a bn hn = sx0 := by rw [ofX, eno]; rfl
            have e2 : ofE v.a bn hn = 1 := by rw [ofE, eno]; rfl
            rw [e1, e2]
            refine ret2c rfl Tryz.underlying36 rfl (by kernel_rfl) rfl rfl (Ent.pure rfl) (Ent.own 1 rfl) fun w s => ⟨(none, 0), trivial, rfl, s.to fun _ h => Sats.nilrow (Sats.keep [false, false, false] h)⟩
        · skip
          refine Pk.slot 46 (v := .bool true) rfl (congrArg Value.bool (decide_eq_true (by omega))) ?_
          have hhr : hrisB v.a.keys = false := by rw [hrisB, decide_eq_false hl1]; simp
          refine pk_guard_no rfl rfl rfl rfl rfl rfl ?_
          refine pk_guard_no rfl rfl rfl rfl rfl rfl ?_
          refine pk_guard_no rfl rfl rfl rfl rfl rfl ?_
          refine pk_guard_no rfl rfl rfl rfl rfl rfl ?_
          refine pk_val rfl rfl rfl (val_pick rfl rfl rfl rfl) ?_
          refine pk_val rfl rfl rfl (val_move rfl rfl) ?_
          refine pk_guard_no rfl rfl rfl rfl rfl rfl ?_
          refine pk_guard_no rfl rfl rfl rfl rfl rfl ?_
          refine pk_guard_no rfl rfl rfl rfl rfl rfl ?_
          refine pk_guard_no rfl rfl rfl rfl rfl rfl ?_
          refine pk_val rfl rfl rfl (val_pick rfl rfl rfl rfl) ?_
          refine pk_val rfl rfl rfl (val_move rfl rfl) ?_
          refine pk_guard_no rfl rfl rfl rfl rfl rfl ?_
          refine pk_guard_no rfl rfl rfl rfl rfl rfl ?_
          refine pk_guard_no rfl rfl rfl rfl rfl rfl ?_
          refine pk_guard_no rfl rfl rfl rfl rfl rfl ?_
          refine pk_guard_no rfl rfl rfl rfl rfl rfl ?_
          refine pk_guard_no rfl rfl rfl rfl rfl rfl ?_
          refine pk_val rfl rfl rfl (val_pick rfl rfl rfl rfl) ?_
          refine pk_nil ?_
          refine thru_on ?_
          refine pk_cond_t rfl ?_
          refine pk_seq ?_
          refine pk_region ?_
          refine pk_val rfl rfl rfl (val_build (z := [.string ⟨#[]⟩, .int .u64 0, .string ⟨#[]⟩, .slice none 0 0]) [(0, 1), (1, 1), (2, 1), (3, 1)] rfl Tryz.underlying36 (by kernel_rfl) (by kernel_rfl) rfl rfl rfl) ?_
          refine pk_eff0 (eff_storeW 1 rfl rfl rfl rfl rfl (by kernel_rfl) rfl rfl rfl) rfl rfl (fun _ _ => ?_)
          refine pk_val rfl rfl rfl (val_assign rfl rfl) ?_
          refine pk_nil ?_
          refine thru_on ?_
          refine pk_ret ?_
          refine thru_ret ?_
          have eno : ofOk v.a bn hn = false := by rw [ofOk, hm, if_neg h0, hid, hhr]; rfl
          have e1 : ofX v.a bn hn = sx0 := by rw [ofX, eno]; rfl
          have e2 : ofE v.a bn hn = 1 := by rw [ofE, eno]; rfl
          rw [e1, e2]
          refine ret2c rfl Tryz.underlying36 rfl (by kernel_rfl) rfl rfl (Ent.pure rfl) (Ent.own 1 rfl) fun w s => ⟨(none, 0), trivial, rfl, s.to fun _ h => Sats.nilrow (Sats.keep [false, false, false] h)⟩
      · skip
        have hid : decide (65536 ≤ v.a.id) = false := decide_eq_false hid
        refine Pk.slot 40 (v := .bool true) rfl (congrArg Value.bool (decide_eq_true (by have := of_decide_eq_false hid; omega))) ?_
        refine pk_guard_no rfl rfl rfl rfl rfl rfl ?_
        refine pk_guard_no rfl rfl rfl rfl rfl rfl ?_
        refine pk_guard_no rfl rfl rfl rfl rfl rfl ?_
        refine pk_guard_no rfl rfl rfl rfl rfl rfl ?_
        refine pk_val rfl rfl rfl (val_pick rfl rfl rfl rfl) ?_
        refine pk_val rfl rfl rfl (val_move rfl rfl) ?_
        refine pk_guard_no rfl rfl rfl rfl rfl rfl ?_
        refine pk_guard_no rfl rfl rfl rfl rfl rfl ?_
        refine pk_guard_no rfl rfl rfl rfl rfl rfl ?_
        refine pk_guard_no rfl rfl rfl rfl rfl rfl ?_
        refine pk_val rfl rfl rfl (val_pick rfl rfl rfl rfl) ?_
        refine pk_val rfl rfl rfl (val_move rfl rfl) ?_
        refine pk_guard_no rfl rfl rfl rfl rfl rfl ?_
        refine pk_guard_no rfl rfl rfl rfl rfl rfl ?_
        refine pk_guard_no rfl rfl rfl rfl rfl rfl ?_
        refine pk_guard_no rfl rfl rfl rfl rfl rfl ?_
        refine pk_val rfl rfl rfl (val_pick rfl rfl rfl rfl) ?_
        refine pk_val rfl rfl rfl (val_move rfl rfl) ?_
        refine pk_guard_no rfl rfl rfl rfl rfl rfl ?_
        refine pk_guard_no rfl rfl rfl rfl rfl rfl ?_
        refine pk_guard_no rfl rfl rfl rfl rfl rfl ?_
        refine pk_guard_no rfl rfl rfl rfl rfl rfl ?_
        refine pk_guard_no rfl rfl rfl rfl rfl rfl ?_
        refine pk_guard_no rfl rfl rfl rfl rfl rfl ?_
        refine pk_val rfl rfl rfl (val_pick rfl rfl rfl rfl) ?_
        refine pk_nil ?_
        refine thru_on ?_
        refine pk_cond_t rfl ?_
        refine pk_seq ?_
        refine pk_region ?_
        refine pk_val rfl rfl rfl (val_build (z := [.string ⟨#[]⟩, .int .u64 0, .string ⟨#[]⟩, .slice none 0 0]) [(0, 1), (1, 1), (2, 1), (3, 1)] rfl Tryz.underlying36 (by kernel_rfl) (by kernel_rfl) rfl rfl rfl) ?_
        refine pk_eff0 (eff_storeW 1 rfl rfl rfl rfl rfl (by kernel_rfl) rfl rfl rfl) rfl rfl (fun _ _ => ?_)
        refine pk_val rfl rfl rfl (val_assign rfl rfl) ?_
        refine pk_nil ?_
        refine thru_on ?_
        refine pk_ret ?_
        refine thru_ret ?_
        have eno : ofOk v.a bn hn = false := by rw [ofOk, hm, if_neg h0, hid]; rfl
        have e1 : ofX v.a bn hn = sx0 := by rw [ofX, eno]; rfl
        have e2 : ofE v.a bn hn = 1 := by rw [ofE, eno]; rfl
        rw [e1, e2]
        refine ret2c rfl Tryz.underlying36 rfl (by kernel_rfl) rfl rfl (Ent.pure rfl) (Ent.own 1 rfl) fun w s => ⟨(none, 0), trivial, rfl, s.to fun _ h => Sats.nilrow (Sats.keep [false, false, false] h)⟩
  · skip
    have hm : mayF b h = false := by simpa using hm
    refine pk_val rfl rfl rfl (val_move rfl rfl) ?_
    refine pk_val rfl rfl rfl (val_move rfl rfl) ?_
    refine pk_eff (eff_call1 rfl ⟨_, Tryz.func69, by kernel_rfl, rfl⟩ rfl (fun E w s => ref27_New_no s (by simpa using hm))) rfl rfl rfl (fun _ _ => ?_)
    refine pk_val rfl rfl rfl (val_move rfl rfl) ?_
    refine pk_val rfl rfl rfl (val_extract rfl rfl rfl) ?_
    refine pk_val rfl rfl rfl (val_extract rfl rfl rfl) ?_
    refine pk_val rfl rfl rfl (val_assign rfl rfl) ?_
    refine pk_val rfl rfl rfl (val_assign rfl rfl) ?_
    refine pk_nil ?_
    refine thru_on ?_
    refine pk_seq ?_
    refine pk_seq ?_
    refine pk_region ?_
    refine pk_val rfl rfl rfl (val_move rfl rfl) ?_
    refine pk_val rfl rfl rfl (val_neq rfl rfl rfl) ?_
    refine pk_nil ?_
    refine thru_on ?_
    refine pk_cond_t rfl ?_
    refine pk_seq ?_
    refine pk_region ?_
    refine pk_val rfl rfl rfl (val_build (z := [.string ⟨#[]⟩, .int .u64 0, .string ⟨#[]⟩, .slice none 0 0]) [(0, 1), (1, 1), (2, 1), (3, 1)] rfl Tryz.underlying36 (by kernel_rfl) (by kernel_rfl) rfl rfl rfl) ?_
    refine pk_eff0 (eff_storeW 0 rfl rfl rfl rfl rfl (by kernel_rfl) rfl rfl rfl) rfl rfl (fun _ _ => ?_)
    refine pk_val rfl rfl rfl (val_assign rfl rfl) ?_
    refine pk_nil ?_
    refine thru_on ?_
    refine pk_ret ?_
    refine thru_ret ?_
    have eno : ofOk v.a b h = false := by rw [ofOk, hm]; rfl
    have e1 : ofX v.a b h = sx0 := by rw [ofX, eno]; rfl
    have e2 : ofE v.a b h = 1 := by rw [ofE, eno]; rfl
    rw [e1, e2]
    refine ret2c rfl Tryz.underlying36 rfl (by kernel_rfl) rfl rfl (Ent.pure rfl) (Ent.own 0 rfl) fun w s => ⟨(none, 0), trivial, rfl, s.to fun _ h => Sats.nilrow (Sats.keep [false, false] h)⟩
end Go.Proofs.YtdpckendkklfdaaGreat
