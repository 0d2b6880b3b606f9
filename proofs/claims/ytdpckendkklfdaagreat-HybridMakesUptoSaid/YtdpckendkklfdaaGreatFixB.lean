/- The walks of package fix, second part: versions, and lists of versions that are formed. -/
import Derived.Test.YtdpckendkklfdaaGreatFixA
set_option linter.unusedVariables false
set_option linter.unusedSimpArgs false
set_option maxRecDepth 100000
namespace Go.Proofs.YtdpckendkklfdaaGreat
open Go.RowKit Go.Proofs.Eng
/-- a version, as data -/
structure Av where
  key : ByteArray
  id : Int
  val : ByteArray
  keys : List ByteArray
deriving DecidableEq
/-- a version, and where its keys lie -/
structure Ver where
  a : Av
  A : Option Addr
  c : Nat
def Ver.cells (v : Ver) : List Value := [.string v.a.key, .int .u64 v.a.id, .string v.a.val, .slice v.A v.a.keys.length v.c]
theorem Ver.cells_len (v : Ver) : v.cells.length = 4 := rfl
def dV : Ver := ⟨⟨emp, 0, emp, []⟩, none, 0⟩
/-- a slice of versions can be read -/
structure VerIn (L : List Ch) (A : Option Addr) (vs : List Ver) : Prop where
  rows : Ent L (RdL A (vs.flatMap Ver.cells))
  keys : ∀ v ∈ vs, Ent L (RdL v.A (v.a.keys.map .string))
  len : vs.length ≤ 1099511627776
  klen : ∀ v ∈ vs, v.a.keys.length ≤ 1099511627776
theorem VerIn.cons {c : Ch} {L : List Ch} {A : Option Addr} {vs : List Ver} (h : VerIn L A vs) : VerIn (c :: L) A vs := ⟨h.rows.cons, fun v hv => (h.keys v hv).cons, h.len, h.klen⟩
def mayB (v : Av) : Bool := if v.id = 0 then decide (v.val = ⟨#[]⟩) && decide (v.keys.length = 0) else decide (65536 ≤ v.id) && (riseB v.keys && decide (v.keys.length ≤ 1024)) && memB v.keys v.key
theorem fix_has_c {E w : World} {L : List Ch} {A : Option Addr} {c : Nat} {l : List ByteArray} {x : ByteArray} (s : Sat E w L) (hr : Ent L (RdL A (l.map .string))) (hl : l.length ≤ 2305843009213693952) (hR : Rise l l.length) :
    Calls Tryz.prog 230 #[.slice A l.length c, .string x] w (Gives E (.bool (memB l x)) L) := by
  refine enter (vs := [_, _]) Tryz.func230 rfl Tryz.ntmps230 rfl s ?_
  refine pk_seq ?_
  refine pk_region ?_
  refine pk_val rfl rfl rfl (val_assign rfl rfl) ?_
  refine pk_nil ?_
  refine thru_on ?_
  refine pk_seq ?_
  refine pk_region ?_
  refine pk_val rfl rfl rfl (val_move rfl rfl) ?_
  refine pk_val rfl rfl rfl (val_move rfl rfl) ?_
  refine pk_eff (eff_callx rfl ⟨_, Tryz.func231, by kernel_rfl, rfl⟩ rfl (fun E w s => BinarySearch_string_c s hr hl hR)) rfl rfl rfl (fun i10 hi10 => ?_)
  refine pk_val rfl rfl rfl (val_move rfl rfl) ?_
  refine pk_val rfl rfl rfl (val_extract rfl rfl rfl) ?_
  refine pk_val rfl rfl rfl (val_extract rfl rfl rfl) ?_
  refine pk_val rfl rfl rfl (val_assign rfl rfl) ?_
  refine pk_val rfl rfl rfl (val_assign rfl rfl) ?_
  refine pk_nil ?_
  refine thru_on ?_
  refine pk_seq ?_
  refine pk_region ?_
  refine pk_val rfl rfl rfl (val_move rfl rfl) ?_
  refine pk_val rfl rfl rfl (val_assign rfl rfl) ?_
  refine pk_nil ?_
  refine thru_on ?_
  refine pk_ret ?_
  refine ret1 rfl rfl fun w s => ⟨rfl, s⟩
theorem fix_may_c {E w : World} {L : List Ch} {v : Ver} (s : Sat E w L) (hr : Ent L (RdL v.A (v.a.keys.map .string))) (hl : v.a.keys.length ≤ 1099511627776) :
    Calls Tryz.prog 174 #[.agg v.cells.toArray] w (Gives E (.bool (mayB v.a)) L) := by
  refine enter (vs := [_]) Tryz.func174 rfl Tryz.ntmps174 rfl s ?_
  refine pk_seq ?_
  refine pk_region ?_
  refine pk_eff (eff_box rfl rfl rfl) rfl rfl rfl (fun b1 _ => ?_)
  refine pk_val rfl rfl rfl (val_assign rfl rfl) ?_
  refine pk_nil ?_
  refine thru_on ?_
  refine pk_seq ?_
  refine pk_seq ?_
  refine pk_region ?_
  refine pk_val rfl rfl rfl (val_fieldAddr rfl Tryz.underlying26 1 1 (by kernel_rfl) (by decide) rfl (Ent.pure rfl)) ?_
  refine pk_val rfl rfl rfl (val_load rfl Tryz.underlying23 rfl rfl ((Ent.own 0 rfl).rd rfl)) ?_
  refine pk_val rfl rfl rfl (val_eql rfl rfl rfl) ?_
  refine pk_nil ?_
  refine thru_on ?_
  refine pk_if rfl (fun h => ?_) (fun h => ?_)
  · skip
    refine pk_seq ?_
    refine pk_region ?_
    refine pk_val rfl rfl rfl (val_fieldAddr rfl Tryz.underlying26 2 1 (by kernel_rfl) (by decide) rfl (Ent.pure rfl)) ?_
    refine pk_val rfl rfl rfl (val_load rfl Tryz.underlying9 rfl rfl ((Ent.own 0 rfl).rd rfl)) ?_
    refine pk_val rfl rfl rfl (val_str_eql rfl rfl rfl) ?_
    refine pk_val rfl rfl rfl (val_move rfl rfl) ?_
    by_cases hv : v.a.val = ⟨#[]⟩
    · skip
      refine Pk.slot 9 (v := .bool true) rfl (by simp [hv]) ?_
      refine pk_guard_yes rfl rfl rfl ?_
      refine pk_val rfl rfl rfl (val_fieldAddr rfl Tryz.underlying26 3 1 (by kernel_rfl) (by decide) rfl (Ent.pure rfl)) ?_
      refine pk_guard_yes rfl rfl rfl ?_
      refine pk_val rfl rfl rfl (val_load rfl Tryz.underlying24 rfl rfl ((Ent.own 0 rfl).rd rfl)) ?_
      refine pk_guard_yes rfl rfl rfl ?_
      refine pk_val rfl rfl rfl (val_len_slice rfl Tryz.underlying24 rfl) ?_
      refine pk_guard_yes rfl rfl rfl ?_
      refine pk_val rfl rfl rfl (val_eql rfl rfl rfl) ?_
      refine pk_val rfl rfl rfl (val_pick rfl rfl rfl rfl) ?_
      refine pk_val rfl rfl rfl (val_assign rfl rfl) ?_
      refine pk_nil ?_
      refine thru_on ?_
      refine pk_ret ?_
      refine thru_ret ?_
      refine ret1 rfl rfl fun w s => ⟨?_, s.to fun _ h => h.tail⟩
      have e : mayB v.a = decide ((v.a.keys.length : Int) = 0) := by simp [mayB, h, hv]
      rw [e]; rfl
    · skip
      refine Pk.slot 9 (v := .bool false) rfl (by simp [hv]) ?_
      refine pk_guard_no rfl rfl rfl rfl rfl rfl ?_
      refine pk_guard_no rfl rfl rfl rfl rfl rfl ?_
      refine pk_guard_no rfl rfl rfl rfl rfl rfl ?_
      refine pk_guard_no rfl rfl rfl rfl rfl rfl ?_
      refine pk_val rfl rfl rfl (val_pick rfl rfl rfl rfl) ?_
      refine pk_val rfl rfl rfl (val_assign rfl rfl) ?_
      refine pk_nil ?_
      refine thru_on ?_
      refine pk_ret ?_
      refine thru_ret ?_
      refine ret1 rfl rfl fun w s => ⟨?_, s.to fun _ h => h.tail⟩
      have e : mayB v.a = false := by simp [mayB, h, hv]
      rw [e]; rfl
  · skip
    refine pk_skip ?_
    refine thru_on ?_
    refine pk_seq ?_
    refine pk_region ?_
    refine pk_val rfl rfl rfl (val_fieldAddr rfl Tryz.underlying26 1 1 (by kernel_rfl) (by decide) rfl (Ent.pure rfl)) ?_
    refine pk_val rfl rfl rfl (val_load rfl Tryz.underlying23 rfl rfl ((Ent.own 0 rfl).rd rfl)) ?_
    refine pk_val rfl rfl rfl (val_geq rfl rfl rfl) ?_
    refine pk_val rfl rfl rfl (val_move rfl rfl) ?_
    by_cases h1 : 65536 ≤ v.a.id
    · skip
      refine Pk.slot 18 (v := .bool true) rfl (by simp [h1]) ?_
      refine pk_guard_yes rfl rfl rfl ?_
      refine pk_val rfl rfl rfl (val_fieldAddr rfl Tryz.underlying26 3 1 (by kernel_rfl) (by decide) rfl (Ent.pure rfl)) ?_
      refine pk_guard_yes rfl rfl rfl ?_
      refine pk_val rfl rfl rfl (val_load rfl Tryz.underlying24 rfl rfl ((Ent.own 0 rfl).rd rfl)) ?_
      refine pk_guard_yes rfl rfl rfl ?_
      refine pk_eff (eff_call1 rfl ⟨_, Tryz.func229, by kernel_rfl, rfl⟩ rfl (fun E w s => fix_rising_c s hr.cons (by omega))) rfl rfl rfl (fun _ _ => ?_)
      refine pk_val rfl rfl rfl (val_pick rfl rfl rfl rfl) ?_
      refine pk_val rfl rfl rfl (val_move rfl rfl) ?_
      by_cases h2 : (riseB v.a.keys && decide (v.a.keys.length ≤ 1024)) = true
      · skip
        refine Pk.slot 23 (v := .bool true) rfl (by rw [h2]; rfl) ?_
        refine pk_guard_yes rfl rfl rfl ?_
        refine pk_val rfl rfl rfl (val_fieldAddr rfl Tryz.underlying26 3 1 (by kernel_rfl) (by decide) rfl (Ent.pure rfl)) ?_
        refine pk_guard_yes rfl rfl rfl ?_
        refine pk_val rfl rfl rfl (val_load rfl Tryz.underlying24 rfl rfl ((Ent.own 0 rfl).rd rfl)) ?_
        refine pk_guard_yes rfl rfl rfl ?_
        refine pk_val rfl rfl rfl (val_fieldAddr rfl Tryz.underlying26 0 1 (by kernel_rfl) (by decide) rfl (Ent.pure rfl)) ?_
        refine pk_guard_yes rfl rfl rfl ?_
        refine pk_val rfl rfl rfl (val_load rfl Tryz.underlying9 rfl rfl ((Ent.own 0 rfl).rd rfl)) ?_
        refine pk_guard_yes rfl rfl rfl ?_
        refine pk_eff (eff_call1 rfl ⟨_, Tryz.func230, by kernel_rfl, rfl⟩ rfl (fun E w s => fix_has_c s hr.cons (by omega) ((riseB_iff _).1 (by simp only [Bool.and_eq_true] at h2; exact h2.1)))) rfl rfl rfl (fun _ _ => ?_)
        refine pk_val rfl rfl rfl (val_pick rfl rfl rfl rfl) ?_
        refine pk_val rfl rfl rfl (val_assign rfl rfl) ?_
        refine pk_nil ?_
        refine thru_on ?_
        refine pk_ret ?_
        refine ret1 rfl rfl fun w s => ⟨?_, s.to fun _ h => h.tail⟩
        have e : mayB v.a = memB v.a.keys v.a.key := by rw [mayB, if_neg h, h2]; simp [h1]
        rw [e]; rfl
      · skip
        have h2' : (riseB v.a.keys && decide (v.a.keys.length ≤ 1024)) = false := by simpa using h2
        refine Pk.slot 23 (v := .bool false) rfl (by rw [h2']; rfl) ?_
        refine pk_guard_no rfl rfl rfl rfl rfl rfl ?_
        refine pk_guard_no rfl rfl rfl rfl rfl rfl ?_
        refine pk_guard_no rfl rfl rfl rfl rfl rfl ?_
        refine pk_guard_no rfl rfl rfl rfl rfl rfl ?_
        refine pk_guard_no rfl rfl rfl rfl rfl rfl ?_
        refine pk_val rfl rfl rfl (val_pick rfl rfl rfl rfl) ?_
        refine pk_val rfl rfl rfl (val_assign rfl rfl) ?_
        refine pk_nil ?_
        refine thru_on ?_
        refine pk_ret ?_
        refine ret1 rfl rfl fun w s => ⟨?_, s.to fun _ h => h.tail⟩
        have e : mayB v.a = false := by rw [mayB, if_neg h, h2']; simp
        rw [e]; rfl
    · skip
      refine Pk.slot 18 (v := .bool false) rfl (by simp [h1]) ?_
      refine pk_guard_no rfl rfl rfl rfl rfl rfl ?_
      refine pk_guard_no rfl rfl rfl rfl rfl rfl ?_
      refine pk_guard_no rfl rfl rfl rfl rfl rfl ?_
      refine pk_val rfl rfl rfl (val_pick rfl rfl rfl rfl) ?_
      refine pk_val rfl rfl rfl (val_move rfl rfl) ?_
      refine pk_guard_no rfl rfl rfl rfl rfl rfl ?_
      refine pk_guard_no rfl rfl rfl rfl rfl rfl ?_
      refine pk_guard_no rfl rfl rfl rfl rfl rfl ?_
      refine pk_guard_no rfl rfl rfl rfl rfl rfl ?_
      refine pk_guard_no rfl rfl rfl rfl rfl rfl ?_
      refine pk_val rfl rfl rfl (val_pick rfl rfl rfl rfl) ?_
      refine pk_val rfl rfl rfl (val_assign rfl rfl) ?_
      refine pk_nil ?_
      refine thru_on ?_
      refine pk_ret ?_
      refine ret1 rfl rfl fun w s => ⟨?_, s.to fun _ h => h.tail⟩
      have e : mayB v.a = false := by simp [mayB, h, h1]
      rw [e]; rfl
theorem slices_Equal_string_c {E w : World} {L : List Ch} {A B : Option Addr} {c d : Nat} {l1 l2 : List ByteArray} (s : Sat E w L) (hr1 : Ent L (RdL A (l1.map .string))) (hr2 : Ent L (RdL B (l2.map .string))) (hl : l1.length ≤ 1099511627776) :
    Calls Tryz.prog 175 #[.slice A l1.length c, .slice B l2.length d] w (Gives E (.bool (decide (l1 = l2))) L) := by
  refine enter (vs := [_, _]) Tryz.func175 rfl Tryz.ntmps175 rfl s ?_
  refine pk_seq ?_
  refine pk_region ?_
  refine pk_val rfl rfl rfl (val_assign rfl rfl) ?_
  refine pk_nil ?_
  refine thru_on ?_
  refine pk_seq ?_
  refine pk_seq ?_
  refine pk_region ?_
  refine pk_val rfl rfl rfl (val_move rfl rfl) ?_
  refine pk_val rfl rfl rfl (val_len_slice rfl Tryz.underlying24 rfl) ?_
  refine pk_val rfl rfl rfl (val_move rfl rfl) ?_
  refine pk_val rfl rfl rfl (val_len_slice rfl Tryz.underlying24 rfl) ?_
  refine pk_val rfl rfl rfl (val_neq rfl rfl rfl) ?_
  refine pk_nil ?_
  refine thru_on ?_
  refine pk_if rfl (fun h => ?_) (fun h => ?_)
  · skip
    refine pk_seq ?_
    refine pk_region ?_
    refine pk_val rfl rfl rfl (val_assign rfl rfl) ?_
    refine pk_nil ?_
    refine thru_on ?_
    refine pk_ret ?_
    refine thru_ret ?_
    refine ret1 rfl rfl fun w s => ⟨?_, s⟩
    have e : ¬ l1 = l2 := fun e => by subst e; simp at h
    simp [e]
  · skip
    refine pk_skip ?_
    refine thru_on ?_
    have hlen : l1.length = l2.length := by omega
    refine pk_seq ?_
    refine pk_seq ?_
    refine pk_region ?_
    refine pk_val rfl rfl rfl (val_move rfl rfl) ?_
    refine pk_val rfl rfl rfl (val_len_slice rfl Tryz.underlying24 rfl) ?_
    refine pk_val rfl rfl rfl (val_move rfl rfl) ?_
    refine pk_nil ?_
    refine thru_on ?_
    refine pk_block ?_
    refine pk_loop (α := Nat) (0) (fun k => [(13, .int .i64 (k : Nat)), (12, .int .i64 (l1.length : Nat)), (0, .slice A l1.length c), (1, .slice B l2.length d)]) (fun k => L) (fun k => ∀ j, j < k → l1.getD j emp = l2.getD j emp) (fun k => l1.length - k) ?_ ?_ ?_ ?_
    · (try dsimp only) <;> exact fun j h => by omega
    · exact ⟨(Sub.cons rfl (by first | rfl | (congr 1; omega) | simp) (Sub.cons rfl (by first | rfl | (congr 1; omega) | simp) (Sub.cons rfl (by first | rfl | (congr 1; omega) | simp) (Sub.cons rfl (by first | rfl | (congr 1; omega) | simp) (Sub.nil _))))), rfl⟩
    · exact (fun _ h => h)
    rintro k hk
    refine pk_seq ?_
    refine pk_region ?_
    refine pk_val rfl rfl rfl (val_lss rfl rfl rfl) ?_
    refine pk_nil ?_
    refine thru_on ?_
    refine pk_seq ?_
    refine pk_if rfl (fun h1 => ?_) (fun h1 => ?_)
    · skip
      refine pk_skip ?_
      refine thru_on ?_
      refine Pk.tells (hr1.some_of (by simp; omega)) fun hA => ?_
      refine Pk.tells (hr2.some_of (by simp; omega)) fun hB => ?_
      refine pk_seq ?_
      refine pk_block ?_
      refine pk_seq ?_
      refine pk_region ?_
      refine pk_val rfl rfl rfl (val_move rfl rfl) ?_
      refine pk_val rfl rfl rfl (val_assign rfl rfl) ?_
      refine pk_nil ?_
      refine thru_on ?_
      refine pk_seq ?_
      refine pk_drawk (.val 0 (.val 1 (.val 2 (.val 3 (.val 4 (.val 5 (.val 6 (.val 7 (.val 8 .nil))))))))) 1009 [] rfl (by kernel_rfl) (fun _ _ _ _ _ h => h) ?_
      refine ord_val rfl rfl rfl rfl (fun _ h => h) (val_move rfl rfl) ?_
      refine ord_val rfl rfl rfl rfl (fun _ h => h) (val_move rfl rfl) ?_
      refine ord_val rfl rfl rfl rfl (fun _ h => h) (val_indexAddr rfl Tryz.underlying24 1 (by kernel_rfl) rfl rfl _ rfl (by omega) (Ent.pure (by first | rfl | assumption))) ?_
      refine ord_val rfl rfl rfl rfl (fun _ h => h) (val_load rfl Tryz.underlying9 rfl rfl (by first | exact hr1.rd (get_map emp (by omega)) | exact hr2.rd (get_map emp (by omega)))) ?_
      refine ord_val rfl rfl rfl rfl (fun _ h => h) (val_move rfl rfl) ?_
      refine ord_val rfl rfl rfl rfl (fun _ h => h) (val_move rfl rfl) ?_
      refine ord_val rfl rfl rfl rfl (fun _ h => h) (val_indexAddr rfl Tryz.underlying24 1 (by kernel_rfl) rfl rfl _ rfl (by omega) (Ent.pure (by first | rfl | assumption))) ?_
      refine ord_val rfl rfl rfl rfl (fun _ h => h) (val_load rfl Tryz.underlying9 rfl rfl (by first | exact hr1.rd (get_map emp (by omega)) | exact hr2.rd (get_map emp (by omega)))) ?_
      refine ord_val rfl rfl rfl rfl (fun _ h => h) (val_str_neq rfl rfl rfl) ?_
      refine ord_nil ?_
      refine thru_on ?_
      refine pk_if rfl (fun h2 => ?_) (fun h2 => ?_)
      · skip
        refine pk_seq ?_
        refine pk_region ?_
        refine pk_val rfl rfl rfl (val_assign rfl rfl) ?_
        refine pk_nil ?_
        refine thru_on ?_
        refine pk_ret ?_
        refine in_ret ?_
        refine thru_ret ?_
        refine thru_ret ?_
        refine in_ret ?_
        refine thru_ret ?_
        refine ret1 rfl rfl fun w s => ⟨?_, s⟩
        have e : ¬ l1 = l2 := fun e => by subst e; simp at h2
        simp [e]
      · skip
        refine pk_skip ?_
        refine in_on ?_
        refine thru_on ?_
        refine pk_region ?_
        refine pk_val rfl rfl rfl (val_add rfl rfl rfl (by omega)) ?_
        refine pk_val rfl rfl rfl (val_move rfl rfl) ?_
        refine pk_nil ?_
        refine thru_on ?_
        refine pk_next (x := k) (k + 1) ?_ ?_ ?_ ?_
        · (try dsimp only) <;> exact fun j hj => by
                by_cases e : j = k
                · subst e; simpa using h2
                · exact hk j (by omega)
        · (try dsimp only); exact (by omega)
        · exact ⟨(Sub.cons rfl (by first | rfl | (congr 1; omega) | simp) (Sub.cons rfl (by first | rfl | (congr 1; omega) | simp) (Sub.cons rfl (by first | rfl | (congr 1; omega) | simp) (Sub.cons rfl (by first | rfl | (congr 1; omega) | simp) (Sub.nil _))))), rfl⟩
        · exact (fun _ h => h)
    · skip
      refine pk_exit ?_
      refine thru ?_
      refine thru ?_
      refine pk_here ?_
      refine thru_on ?_
      refine pk_seq ?_
      refine pk_region ?_
      refine pk_val rfl rfl rfl (val_assign rfl rfl) ?_
      refine pk_nil ?_
      refine thru_on ?_
      refine pk_ret ?_
      refine ret1 rfl rfl fun w s => ⟨?_, s⟩
      have e : l1 = l2 := list_eq_of hlen fun j hj => hk j (by omega)
      simp [e]
end Go.Proofs.YtdpckendkklfdaaGreat
