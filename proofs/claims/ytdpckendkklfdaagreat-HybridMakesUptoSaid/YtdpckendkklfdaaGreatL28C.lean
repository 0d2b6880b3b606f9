/- The walks of law 28, third part: same, sameS, sameX, HybridMakes. -/
import Derived.Test.YtdpckendkklfdaaGreatL28A
import Derived.Test.YtdpckendkklfdaaGreatReC
set_option linter.unusedVariables false
set_option linter.unusedSimpArgs false
set_option maxRecDepth 100000
namespace Go.Proofs.YtdpckendkklfdaaGreat
open Go.RowKit Go.Proofs.Eng
def strB (l : List Nat) : ByteArray := strOfNums (l.map Int.ofNat)
theorem bV_ofNat (l : List Nat) : (l.map Int.ofNat).map (Value.int .u8) = l.map bV := by rw [List.map_map]; rfl
theorem ent_nums {L : List Ch} {A : Option Addr} {l : List Nat} (h : Ent L (RdL A (l.map bV))) : Ent L (RdL A ((l.map Int.ofNat).map (Value.int .u8))) := by rw [bV_ofNat]; exact h
def spareS : ByteArray := ⟨#[115, 112, 97, 114, 101]⟩
theorem l28_same_c {E w : World} {L : List Ch} {A B : Option Addr} {n m c d : Nat} {l k : List Nat} (s : Sat E w L) (hr : Ent L (RdL A (l.map bV))) (hq : Ent L (RdL B (k.map bV))) (hn : l.length = n) (hm : k.length = m) :
    Calls Tryz.prog 33 #[.slice A n c, .slice B m d] w (Gives E (.bool (decide (strB l = strB k))) L) := by
  refine enter (vs := [_, _]) Tryz.func33 rfl Tryz.ntmps33 rfl s ?_
  refine pk_seq ?_
  refine pk_region ?_
  refine pk_val rfl rfl rfl (val_assign rfl rfl) ?_
  refine pk_nil ?_
  refine thru_on ?_
  refine pk_seq ?_
  refine pk_region ?_
  refine pk_val rfl rfl rfl (val_move rfl rfl) ?_
  refine pk_val rfl rfl rfl (val_bytes_string (xs := l.map Int.ofNat) rfl Tryz.underlying28 Tryz.underlying5 Tryz.underlying9 rfl (ent_nums hr) (by rw [List.length_map]; exact hn)) ?_
  refine pk_val rfl rfl rfl (val_move rfl rfl) ?_
  refine pk_val rfl rfl rfl (val_bytes_string (xs := k.map Int.ofNat) rfl Tryz.underlying28 Tryz.underlying5 Tryz.underlying9 rfl (ent_nums hq) (by rw [List.length_map]; exact hm)) ?_
  refine pk_val rfl rfl rfl (val_str_eql rfl rfl rfl) ?_
  refine pk_val rfl rfl rfl (val_assign rfl rfl) ?_
  refine pk_nil ?_
  refine thru_on ?_
  refine pk_ret ?_
  refine ret1 rfl rfl fun w s => ⟨rfl, s⟩
theorem l28_sameS_c {E w : World} {L : List Ch} {A B : Option Addr} {n c d : Nat} {l : List ByteArray} (s : Sat E w L) (hr : Ent L (RdL A (l.map .string))) (hq : Ent L (RdL B (l.map .string))) (hn : l.length = n) (hl : n ≤ 1099511627776) :
    Calls Tryz.prog 17 #[.slice A n c, .slice B n d] w (Gives E (.bool true) L) := by
  subst hn
  refine enter (vs := [_, _]) Tryz.func17 rfl Tryz.ntmps17 rfl s ?_
  refine pk_seq ?_
  refine pk_region ?_
  refine pk_val rfl rfl rfl (val_assign rfl rfl) ?_
  refine pk_nil ?_
  refine thru_on ?_
  refine pk_seq ?_
  refine pk_seq ?_
  refine pk_region ?_
  refine pk_val rfl rfl rfl (val_move rfl rfl) ?_
  refine pk_val rfl rfl rfl (val_len_slice rfl Tryz.underlying24 rfl) ?_
  refine pk_val rfl rfl rfl (val_move rfl rfl) ?_
  refine pk_val rfl rfl rfl (val_len_slice rfl Tryz.underlying24 rfl) ?_
  refine pk_val rfl rfl rfl (val_neq rfl rfl rfl) ?_
  refine pk_nil ?_
  refine thru_on ?_
  refine pk_if rfl (fun h0 => ?_) (fun h0 => ?_)
  · skip
    exact absurd rfl h0
  · skip
    refine pk_skip ?_
    refine thru_on ?_
    refine pk_seq ?_
    refine pk_seq ?_
    refine pk_region ?_
    refine pk_val rfl rfl rfl (val_assign rfl rfl) ?_
    refine pk_nil ?_
    refine thru_on ?_
    refine pk_block ?_
    refine pk_loop (α := Nat) (0) (fun k => [(0, .slice A l.length c), (1, .slice B l.length d), (5, .int .i64 (k : Nat))]) (fun k => L) (fun k => k ≤ l.length) (fun k => l.length - k) ?_ ?_ ?_ ?_
    · (try dsimp only) <;> exact Nat.zero_le _
    · exact ⟨(Sub.cons rfl (by first | rfl | (congr 1; omega) | simp) (Sub.cons rfl (by first | rfl | (congr 1; omega) | simp) (Sub.cons rfl (by first | rfl | (congr 1; omega) | simp) (Sub.nil _)))), rfl⟩
    · exact (fun _ h => h)
    rintro k hk0
    refine pk_seq ?_
    refine pk_seq ?_
    refine pk_region ?_
    refine pk_val rfl rfl rfl (val_move rfl rfl) ?_
    refine pk_val rfl rfl rfl (val_move rfl rfl) ?_
    refine pk_val rfl rfl rfl (val_len_slice rfl Tryz.underlying24 rfl) ?_
    refine pk_val rfl rfl rfl (val_lss rfl rfl rfl) ?_
    refine pk_nil ?_
    refine thru_on ?_
    refine pk_if rfl (fun h => ?_) (fun h => ?_)
    · skip
      refine pk_skip ?_
      refine thru_on ?_
      have hk : k < l.length := by omega
      refine Pk.tells (hr.some_of (by rw [List.length_map]; omega)) fun hA => ?_
      refine Pk.tells (hq.some_of (by rw [List.length_map]; omega)) fun hB => ?_
      refine pk_seq ?_
      refine pk_block ?_
      refine pk_seq ?_
      refine pk_drawk (.val 0 (.val 1 (.val 2 (.val 3 (.val 4 (.val 5 (.val 6 (.val 7 (.val 8 .nil))))))))) 1009 [] rfl (by kernel_rfl) (fun _ _ _ _ _ h => h) ?_
      refine ord_val rfl rfl rfl rfl (fun _ h => h) (val_move rfl rfl) ?_
      refine ord_val rfl rfl rfl rfl (fun _ h => h) (val_move rfl rfl) ?_
      refine ord_val rfl rfl rfl rfl (fun _ h => h) (val_indexAddr rfl Tryz.underlying24 1 (by kernel_rfl) rfl rfl k rfl hk (Ent.pure hA)) ?_
      refine ord_val rfl rfl rfl rfl (fun _ h => h) (val_load rfl Tryz.underlying9 rfl rfl (hr.rd (get_map emp hk))) ?_
      refine ord_val rfl rfl rfl rfl (fun _ h => h) (val_move rfl rfl) ?_
      refine ord_val rfl rfl rfl rfl (fun _ h => h) (val_move rfl rfl) ?_
      refine ord_val rfl rfl rfl rfl (fun _ h => h) (val_indexAddr rfl Tryz.underlying24 1 (by kernel_rfl) rfl rfl k rfl hk (Ent.pure hB)) ?_
      refine ord_val rfl rfl rfl rfl (fun _ h => h) (val_load rfl Tryz.underlying9 rfl rfl (hq.rd (get_map emp hk))) ?_
      refine ord_val rfl rfl rfl rfl (fun _ h => h) (val_str_neq rfl rfl rfl) ?_
      refine ord_nil ?_
      refine thru_on ?_
      refine pk_if rfl (fun h2 => ?_) (fun h2 => ?_)
      · skip
        exact absurd rfl h2
      · skip
        refine pk_skip ?_
        refine in_on ?_
        refine thru_on ?_
        refine pk_region ?_
        refine pk_val rfl rfl rfl (val_move rfl rfl) ?_
        refine pk_val rfl rfl rfl (val_add rfl rfl rfl (by omega)) ?_
        refine pk_val rfl rfl rfl (val_assign rfl rfl) ?_
        refine pk_nil ?_
        refine thru_on ?_
        refine pk_next (x := k) (k + 1) ?_ ?_ ?_ ?_
        · (try dsimp only) <;> exact hk
        · (try dsimp only); exact (by omega)
        · exact ⟨(Sub.cons rfl (by first | rfl | (congr 1; omega) | simp) (Sub.cons rfl (by first | rfl | (congr 1; omega) | simp) (Sub.cons rfl (by first | rfl | (congr 1; omega) | simp) (Sub.nil _)))), rfl⟩
        · exact (fun _ h => h)
    · skip
      refine pk_exit ?_
      refine thru ?_
      refine thru ?_
      refine pk_here ?_
      refine thru_on ?_
      refine pk_seq ?_
      refine pk_region ?_
      refine pk_val rfl rfl rfl (val_assign rfl rfl) ?_
      refine pk_nil ?_
      refine thru_on ?_
      refine pk_ret ?_
      refine ret1 rfl rfl fun w s => ⟨rfl, s⟩
theorem l28_sameX_c {E w : World} {L : List Ch} {x : Sx} {A B : Option Addr} {c d : Nat} (s : Sat E w L) (hr : Ent L (RdL A (x.f.map bV))) (hq : Ent L (RdL B (x.f.map bV))) :
    Calls Tryz.prog 16 #[.agg (⟨x, A, c⟩ : Sl).cells.toArray, .agg (⟨x, B, d⟩ : Sl).cells.toArray] w (Gives E (.bool true) L) := by
  refine enter (vs := [_, _]) Tryz.func16 rfl Tryz.ntmps16 rfl s ?_
  refine pk_seq ?_
  refine pk_region ?_
  refine pk_eff (eff_box rfl rfl rfl) rfl rfl rfl (fun b2 _ => ?_)
  refine pk_eff (eff_box rfl rfl rfl) rfl rfl rfl (fun b3 _ => ?_)
  refine pk_val rfl rfl rfl (val_assign rfl rfl) ?_
  refine pk_nil ?_
  refine thru_on ?_
  refine pk_seq ?_
  refine pk_region ?_
  refine pk_val rfl rfl rfl (val_fieldAddr rfl Tryz.underlying30 0 1 (by kernel_rfl) (by decide) rfl (Ent.pure rfl)) ?_
  refine pk_val rfl rfl rfl (val_load (v := .string x.key) rfl Tryz.underlying9 rfl rfl ((Ent.own 1 rfl).rd rfl)) ?_
  refine pk_val rfl rfl rfl (val_fieldAddr rfl Tryz.underlying36 0 1 (by kernel_rfl) (by decide) rfl (Ent.pure rfl)) ?_
  refine pk_val rfl rfl rfl (val_load (v := .string x.key) rfl Tryz.underlying9 rfl rfl ((Ent.own 0 rfl).rd rfl)) ?_
  refine pk_val rfl rfl rfl (val_str_eql rfl rfl rfl) ?_
  refine Pk.slot 9 (v := .bool true) rfl (congrArg Value.bool (decide_eq_true rfl)) ?_
  refine pk_val rfl rfl rfl (val_move rfl rfl) ?_
  refine pk_guard_yes rfl rfl rfl ?_
  refine pk_val rfl rfl rfl (val_fieldAddr rfl Tryz.underlying30 1 1 (by kernel_rfl) (by decide) rfl (Ent.pure rfl)) ?_
  refine pk_guard_yes rfl rfl rfl ?_
  refine pk_val rfl rfl rfl (val_load (v := .int .u64 x.id) rfl Tryz.underlying23 rfl rfl ((Ent.own 1 rfl).rd rfl)) ?_
  refine pk_guard_yes rfl rfl rfl ?_
  refine pk_val rfl rfl rfl (val_fieldAddr rfl Tryz.underlying36 1 1 (by kernel_rfl) (by decide) rfl (Ent.pure rfl)) ?_
  refine pk_guard_yes rfl rfl rfl ?_
  refine pk_val rfl rfl rfl (val_load (v := .int .u64 x.id) rfl Tryz.underlying23 rfl rfl ((Ent.own 0 rfl).rd rfl)) ?_
  refine pk_guard_yes rfl rfl rfl ?_
  refine pk_val rfl rfl rfl (val_eql rfl rfl rfl) ?_
  refine pk_val rfl rfl rfl (val_pick rfl rfl rfl rfl) ?_
  refine Pk.slot 16 (v := .bool true) rfl (congrArg Value.bool (decide_eq_true rfl)) ?_
  refine pk_val rfl rfl rfl (val_move rfl rfl) ?_
  refine pk_guard_yes rfl rfl rfl ?_
  refine pk_val rfl rfl rfl (val_fieldAddr rfl Tryz.underlying30 2 1 (by kernel_rfl) (by decide) rfl (Ent.pure rfl)) ?_
  refine pk_guard_yes rfl rfl rfl ?_
  refine pk_val rfl rfl rfl (val_load (v := .string x.val) rfl Tryz.underlying9 rfl rfl ((Ent.own 1 rfl).rd rfl)) ?_
  refine pk_guard_yes rfl rfl rfl ?_
  refine pk_val rfl rfl rfl (val_fieldAddr rfl Tryz.underlying36 2 1 (by kernel_rfl) (by decide) rfl (Ent.pure rfl)) ?_
  refine pk_guard_yes rfl rfl rfl ?_
  refine pk_val rfl rfl rfl (val_load (v := .string x.val) rfl Tryz.underlying9 rfl rfl ((Ent.own 0 rfl).rd rfl)) ?_
  refine pk_guard_yes rfl rfl rfl ?_
  refine pk_val rfl rfl rfl (val_str_eql rfl rfl rfl) ?_
  refine pk_val rfl rfl rfl (val_pick rfl rfl rfl rfl) ?_
  refine Pk.slot 23 (v := .bool true) rfl (congrArg Value.bool (decide_eq_true rfl)) ?_
  refine pk_val rfl rfl rfl (val_move rfl rfl) ?_
  refine pk_guard_yes rfl rfl rfl ?_
  refine pk_val rfl rfl rfl (val_fieldAddr rfl Tryz.underlying30 3 1 (by kernel_rfl) (by decide) rfl (Ent.pure rfl)) ?_
  refine pk_guard_yes rfl rfl rfl ?_
  refine pk_val rfl rfl rfl (val_load (v := .slice A x.f.length c) rfl Tryz.underlying28 rfl rfl ((Ent.own 1 rfl).rd rfl)) ?_
  refine pk_guard_yes rfl rfl rfl ?_
  refine pk_val rfl rfl rfl (val_fieldAddr rfl Tryz.underlying36 3 1 (by kernel_rfl) (by decide) rfl (Ent.pure rfl)) ?_
  refine pk_guard_yes rfl rfl rfl ?_
  refine pk_val rfl rfl rfl (val_load (v := .slice B x.f.length d) rfl Tryz.underlying28 rfl rfl ((Ent.own 0 rfl).rd rfl)) ?_
  refine pk_guard_yes rfl rfl rfl ?_
  refine pk_eff (eff_call1 rfl ⟨_, Tryz.func33, by kernel_rfl, rfl⟩ rfl (fun E w s => l28_same_c s hr.cons.cons hq.cons.cons rfl rfl)) rfl rfl rfl (fun _ _ => ?_)
  refine pk_val rfl rfl rfl (val_pick rfl rfl rfl rfl) ?_
  refine pk_val rfl rfl rfl (val_assign rfl rfl) ?_
  refine pk_nil ?_
  refine thru_on ?_
  refine pk_ret ?_
  refine ret1 rfl rfl fun w s => ⟨?_, s.to (fun _ h => Sats.keep [false, false] h)⟩
  rw [decide_eq_true rfl]; rfl
theorem l28_HybridMakes_c {E w : World} {L : List Ch} {v : Ver} {b e : Int} (s : Sat E w L) (hv : Ent L (RdL v.A (v.a.keys.map .string))) (hl : v.a.keys.length ≤ 1048576) (hks : ∀ k ∈ v.a.keys, k.size ≤ 4611686018427387904) :
    Calls Tryz.prog 3 #[.agg v.cells.toArray, .int .i64 b, .int .i64 e] w (Gives E (.bool true) L) := by
  refine enter (vs := [_, _, _]) Tryz.func3 rfl Tryz.ntmps3 rfl s ?_
  refine pk_seq ?_
  refine pk_region ?_
  refine pk_eff (eff_box rfl rfl rfl) rfl rfl rfl (fun b3 _ => ?_)
  refine pk_val rfl rfl rfl (val_assign rfl rfl) ?_
  refine pk_nil ?_
  refine thru_on ?_
  refine pk_seq ?_
  refine pk_seq ?_
  refine pk_region ?_
  refine pk_eff (eff_call1 rfl ⟨_, Tryz.func13, by kernel_rfl, rfl⟩ rfl (fun E w s => l28_alive_c s)) rfl rfl rfl (fun _ _ => ?_)
  refine pk_val rfl rfl rfl (val_not rfl rfl) ?_
  refine pk_nil ?_
  refine thru_on ?_
  refine pk_ifn rfl (fun h0 => ?_) (fun h0 => ?_)
  · skip
    cases h0
  · skip
    refine pk_skip ?_
    refine thru_on ?_
    refine Pk.nilrow 9 1 ?_
    refine pk_seq ?_
    refine pk_region ?_
    refine pk_val rfl rfl rfl (val_assign rfl rfl) ?_
    refine pk_nil ?_
    refine thru_on ?_
    refine pk_seq ?_
    refine pk_region ?_
    refine pk_val rfl rfl rfl (val_move rfl rfl) ?_
    refine pk_val rfl rfl rfl (val_fieldAddr rfl Tryz.underlying26 3 1 (by kernel_rfl) (by decide) rfl (Ent.pure rfl)) ?_
    refine pk_val rfl rfl rfl (val_load (v := .slice v.A v.a.keys.length v.c) rfl Tryz.underlying24 rfl rfl ((Ent.own 1 rfl).rd rfl)) ?_
    refine pk_eff (eff_append1 (sz := 1) (bytes := 16) (z := .string ⟨#[]⟩) 0 rfl Tryz.underlying24 (by kernel_rfl) rfl (by decide) (by decide) rfl rfl rfl hv.cons.cons rfl (by rw [List.length_map, Nat.mul_one]) (by simp [Value.oneCell']) (by omega)) rfl rfl rfl (fun q18 _ => ?_)
    refine pk_eff (eff_buildSlice (len := 1) (sz := 1) (z := #[.string ⟨#[]⟩]) rfl Tryz.underlying24 (by kernel_rfl) rfl rfl rfl (by decide) (by decide) rfl rfl) rfl rfl rfl (fun b19 _ => ?_)
    refine pk_eff (eff_append1 (sz := 1) (bytes := 16) (z := .string ⟨#[]⟩) 1 rfl Tryz.underlying24 (by kernel_rfl) rfl (by decide) (by decide) rfl rfl rfl (Ent.own 0 rfl) (by rw [List.nil_append, List.length_map, Nat.zero_add, Nat.mul_one]) rfl rfl (by omega)) rfl rfl rfl (fun q20 _ => ?_)
    refine pk_val rfl rfl rfl (val_assign rfl rfl) ?_
    refine pk_nil ?_
    refine thru_on ?_
    refine pk_seq ?_
    refine pk_region ?_
    refine pk_val rfl rfl rfl (val_loads (vs := v.cells) rfl Tryz.underlying26 rfl (by kernel_rfl) rfl (Ent.pure rfl) ((Ent.own 2 rfl).rds (fun j v h => by rw [Nat.zero_add j]; exact h))) ?_
    refine pk_eff (eff_alloc (z := [.string ⟨#[]⟩, .int .u64 0, .string ⟨#[]⟩, .slice none 0 0]) rfl (by kernel_rfl)) rfl rfl rfl (fun b8 _ => ?_)
    refine pk_eff0 (eff_storeW 0 rfl rfl rfl rfl rfl (by kernel_rfl) rfl rfl rfl) rfl rfl (fun _ _ => ?_)
    refine pk_nil ?_
    refine thru_on ?_
    refine pk_seq ?_
    refine pk_region ?_
    refine Pk.tells (Ent.cap 2 rfl) fun hcap => ?_
    refine Pk.tells ((Ent.own 2 rfl).some_of (by rw [List.length_append]; show 0 < _ + 1; omega)) fun hA7 => ?_
    refine pk_val rfl rfl rfl (val_move rfl rfl) ?_
    refine pk_val rfl rfl rfl (val_fieldAddr rfl Tryz.underlying26 3 1 (by kernel_rfl) (by decide) rfl (Ent.pure rfl)) ?_
    refine pk_val rfl rfl rfl (val_load (v := .slice v.A v.a.keys.length v.c) rfl Tryz.underlying24 rfl rfl ((Ent.own 3 rfl).rd rfl)) ?_
    refine pk_val rfl rfl rfl (val_len_slice rfl Tryz.underlying24 rfl) ?_
    refine pk_val rfl rfl rfl (val_slice_h rfl Tryz.underlying24 (by kernel_rfl) rfl rfl v.a.keys.length rfl (by omega)) ?_
    refine pk_val rfl rfl rfl (val_fieldAddr rfl Tryz.underlying26 3 1 (by kernel_rfl) (by decide) rfl (Ent.pure rfl)) ?_
    refine pk_eff0 (eff_store 0 rfl rfl rfl rfl rfl (by kernel_rfl) rfl (by first | (simp; done) | exact Nat.le_refl _ | exact Nat.le_of_ble_eq_true rfl) (by first | (simp; done) | exact Nat.le_refl _ | exact Nat.le_of_ble_eq_true rfl)) rfl rfl (fun _ _ => ?_)
    refine pk_nil ?_
    refine thru_on ?_
    refine pk_seq ?_
    refine pk_region ?_
    refine pk_val rfl rfl rfl (val_loads (vs := (⟨v.a, q20.1, q20.2⟩ : Ver).cells) rfl Tryz.underlying26 rfl (by kernel_rfl) rfl (Ent.pure rfl) ((Ent.own 0 rfl).rds (fun j v h => by rw [Nat.zero_add j]; exact h))) ?_
    refine pk_val rfl rfl rfl (val_move rfl rfl) ?_
    refine pk_val rfl rfl rfl (val_move rfl rfl) ?_
    refine pk_val rfl rfl rfl (val_build (z := [.int .i64 0, .int .i64 0]) [(0, 1), (1, 1)] rfl Tryz.underlying35 (by kernel_rfl) (by kernel_rfl) rfl rfl rfl) ?_
    refine pk_eff (eff_callx rfl ⟨_, Tryz.func14, by kernel_rfl, rfl⟩ rfl (fun E w s => hybrid_Of_c (v := (⟨v.a, q20.1, q20.2⟩ : Ver)) s (Ent.left (Ent.own 2 rfl)) (by dsimp only; omega) hks)) rfl rfl rfl (fun q33 _ => ?_)
    refine pk_val rfl rfl rfl (val_move rfl rfl) ?_
    refine pk_val rfl rfl rfl (val_extract rfl rfl rfl) ?_
    refine pk_val rfl rfl rfl (val_extract rfl rfl rfl) ?_
    refine pk_eff (eff_alloc (z := [.string ⟨#[]⟩, .int .u64 0, .string ⟨#[]⟩, .slice none 0 0]) rfl (by kernel_rfl)) rfl rfl rfl (fun b9 _ => ?_)
    refine pk_eff0 (eff_storeW 0 rfl rfl rfl rfl rfl (by kernel_rfl) rfl rfl rfl) rfl rfl (fun _ _ => ?_)
    refine pk_val rfl rfl rfl (val_assign rfl rfl) ?_
    refine pk_nil ?_
    refine thru_on ?_
    refine pk_seq ?_
    refine pk_region ?_
    refine pk_val rfl rfl rfl (val_loads (vs := v.cells) rfl Tryz.underlying26 rfl (by kernel_rfl) rfl (Ent.pure rfl) ((Ent.own 5 rfl).rds (fun j v h => by rw [Nat.zero_add j]; exact h))) ?_
    refine pk_val rfl rfl rfl (val_move rfl rfl) ?_
    refine pk_val rfl rfl rfl (val_move rfl rfl) ?_
    refine pk_eff (eff_callx rfl ⟨_, Tryz.func15, by kernel_rfl, rfl⟩ rfl (fun E w s => ref28_Of_c (v := v) s hv.cons.cons.cons.cons.cons.cons (by omega) hks)) rfl rfl rfl (fun q40 _ => ?_)
    refine pk_val rfl rfl rfl (val_move rfl rfl) ?_
    refine pk_val rfl rfl rfl (val_extract rfl rfl rfl) ?_
    refine pk_val rfl rfl rfl (val_extract rfl rfl rfl) ?_
    refine pk_eff (eff_alloc (z := [.string ⟨#[]⟩, .int .u64 0, .string ⟨#[]⟩, .slice none 0 0]) rfl (by kernel_rfl)) rfl rfl rfl (fun b11 _ => ?_)
    refine pk_eff0 (eff_storeW 0 rfl rfl rfl rfl rfl (by kernel_rfl) rfl rfl rfl) rfl rfl (fun _ _ => ?_)
    refine pk_val rfl rfl rfl (val_assign rfl rfl) ?_
    refine pk_nil ?_
    refine thru_on ?_
    refine pk_seq ?_
    refine pk_region ?_
    refine pk_val rfl rfl rfl (val_loads (vs := (⟨(ofX v.a b e), q33.1, q33.2⟩ : Sl).cells) rfl Tryz.underlying30 rfl (by kernel_rfl) rfl (Ent.pure rfl) ((Ent.own 2 rfl).rds (fun j v h => by rw [Nat.zero_add j]; exact h))) ?_
    refine pk_val rfl rfl rfl (val_loads (vs := (⟨(ofX v.a b e), q40.1, q40.2⟩ : Sl).cells) rfl Tryz.underlying36 rfl (by kernel_rfl) rfl (Ent.pure rfl) ((Ent.own 0 rfl).rds (fun j v h => by rw [Nat.zero_add j]; exact h))) ?_
    refine pk_eff (eff_call1 rfl ⟨_, Tryz.func16, by kernel_rfl, rfl⟩ rfl (fun E w s => l28_sameX_c s (Ent.own 3 rfl) (Ent.own 1 rfl))) rfl rfl rfl (fun _ _ => ?_)
    refine pk_val rfl rfl rfl (val_move rfl rfl) ?_
    refine pk_guard_yes rfl rfl rfl ?_
    refine pk_val rfl rfl rfl (val_move rfl rfl) ?_
    refine pk_guard_yes rfl rfl rfl ?_
    refine pk_val rfl rfl rfl (val_move rfl rfl) ?_
    refine pk_guard_yes rfl rfl rfl ?_
    refine pk_val rfl rfl rfl (val_eql rfl rfl rfl) ?_
    refine pk_val rfl rfl rfl (val_pick rfl rfl rfl rfl) ?_
    refine Pk.slot 50 (v := .bool true) rfl (congrArg Value.bool (decide_eq_true rfl)) ?_
    refine pk_val rfl rfl rfl (val_move rfl rfl) ?_
    refine pk_guard_yes rfl rfl rfl ?_
    refine pk_val rfl rfl rfl (val_fieldAddr rfl Tryz.underlying26 3 1 (by kernel_rfl) (by decide) rfl (Ent.pure rfl)) ?_
    refine pk_guard_yes rfl rfl rfl ?_
    refine pk_val rfl rfl rfl (val_load (v := .slice q20.1 v.a.keys.length q20.2) rfl Tryz.underlying24 rfl rfl ((Ent.own 4 rfl).rd rfl)) ?_
    refine pk_guard_yes rfl rfl rfl ?_
    refine pk_val rfl rfl rfl (val_fieldAddr rfl Tryz.underlying26 3 1 (by kernel_rfl) (by decide) rfl (Ent.pure rfl)) ?_
    refine pk_guard_yes rfl rfl rfl ?_
    refine pk_val rfl rfl rfl (val_load (v := .slice v.A v.a.keys.length v.c) rfl Tryz.underlying24 rfl rfl ((Ent.own 7 rfl).rd rfl)) ?_
    refine pk_guard_yes rfl rfl rfl ?_
    refine pk_eff (eff_call1 rfl ⟨_, Tryz.func17, by kernel_rfl, rfl⟩ rfl (fun E w s => l28_sameS_c s (Ent.left (Ent.own 6 rfl)) hv.cons.cons.cons.cons.cons.cons.cons.cons rfl (by omega))) rfl rfl rfl (fun _ _ => ?_)
    refine pk_val rfl rfl rfl (val_pick rfl rfl rfl rfl) ?_
    refine pk_val rfl rfl rfl (val_move rfl rfl) ?_
    refine pk_guard_yes rfl rfl rfl ?_
    refine pk_val rfl rfl rfl (val_move rfl rfl) ?_
    refine pk_guard_yes rfl rfl rfl ?_
    refine pk_val rfl rfl rfl (val_fieldAddr rfl Tryz.underlying26 3 1 (by kernel_rfl) (by decide) rfl (Ent.pure rfl)) ?_
    refine pk_guard_yes rfl rfl rfl ?_
    refine pk_val rfl rfl rfl (val_load (v := .slice v.A v.a.keys.length v.c) rfl Tryz.underlying24 rfl rfl ((Ent.own 7 rfl).rd rfl)) ?_
    refine pk_guard_yes rfl rfl rfl ?_
    refine pk_val rfl rfl rfl (val_len_slice rfl Tryz.underlying24 rfl) ?_
    refine pk_guard_yes rfl rfl rfl ?_
    refine pk_val rfl rfl rfl (val_indexAddr rfl Tryz.underlying24 1 (by kernel_rfl) rfl rfl v.a.keys.length rfl (by omega) (Ent.pure hA7)) ?_
    refine pk_guard_yes rfl rfl rfl ?_
    refine pk_val rfl rfl rfl (val_load (v := .string spareS) rfl Tryz.underlying9 rfl rfl ((Ent.own 6 rfl).rd (by rw [List.nil_append, Nat.mul_one, List.getElem?_append_right (by rw [List.length_map]; exact Nat.le_refl _), List.length_map, Nat.sub_self]; rfl))) ?_
    refine pk_guard_yes rfl rfl rfl ?_
    refine pk_val rfl rfl rfl (val_str_eql rfl rfl rfl) ?_
    refine pk_val rfl rfl rfl (val_pick rfl rfl rfl rfl) ?_
    refine pk_val rfl rfl rfl (val_assign rfl rfl) ?_
    refine pk_nil ?_
    refine thru_on ?_
    refine pk_ret ?_
    refine ret1 rfl rfl fun w s => ⟨?_, s.to (fun _ h => Sats.keep [false, false, false, false, false, false, false, false] h)⟩
    exact congrArg (fun b => Ending.returned (.bool b)) (decide_eq_true (show spareS = ⟨#[115, 112, 97, 114, 101]⟩ from rfl))
end Go.Proofs.YtdpckendkklfdaaGreat
