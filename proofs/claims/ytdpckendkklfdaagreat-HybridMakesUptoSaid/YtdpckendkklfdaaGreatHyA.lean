/- The walks of package hybrid, first part: Of. -/
import Derived.Test.YtdpckendkklfdaaGreatBlD
import Derived.Test.YtdpckendkklfdaaGreatFixE
set_option linter.unusedVariables false
set_option linter.unusedSimpArgs false
set_option maxRecDepth 100000
namespace Go.Proofs.YtdpckendkklfdaaGreat
open Go.RowKit Go.Proofs.Eng
def hrisB (l : List ByteArray) : Bool := riseB l && (decide (1 ≤ l.length) && decide (l.length ≤ 1024))
theorem hybrid_rising_c {E w : World} {L : List Ch} {A : Option Addr} {c : Nat} {l : List ByteArray} (s : Sat E w L) (hr : Ent L (RdL A (l.map .string))) (hl : l.length ≤ 4611686018427387904) :
    Calls Tryz.prog 65 #[.slice A l.length c] w (Gives E (.bool (hrisB l)) L) := by
  refine enter (vs := [_]) Tryz.func65 rfl Tryz.ntmps65 rfl s ?_
  refine pk_seq ?_
  refine pk_region ?_
  refine pk_val rfl rfl rfl (val_assign rfl rfl) ?_
  refine pk_nil ?_
  refine thru_on ?_
  refine pk_seq ?_
  refine pk_seq ?_
  refine pk_region ?_
  refine pk_val rfl rfl rfl (val_assign rfl rfl) ?_
  refine pk_nil ?_
  refine thru_on ?_
  refine pk_block ?_
  refine pk_loop (α := Nat) (1) (fun k => [(3, .int .i64 k), (0, .slice A l.length c)]) (fun k => L) (fun k => 1 ≤ k ∧ Rise l k) (fun k => l.length - k) ?_ ?_ ?_ ?_
  · (try dsimp only) <;> exact ⟨Nat.le_refl _, fun j h => by omega⟩
  · exact ⟨(Sub.cons rfl (by first | rfl | (congr 1; omega) | simp) (Sub.cons rfl (by first | rfl | (congr 1; omega) | simp) (Sub.nil _))), rfl⟩
  · exact (fun _ h => h)
  rintro k ⟨hk1, hk⟩
  refine pk_seq ?_
  refine pk_seq ?_
  refine pk_region ?_
  refine pk_val rfl rfl rfl (val_move rfl rfl) ?_
  refine pk_val rfl rfl rfl (val_move rfl rfl) ?_
  refine pk_val rfl rfl rfl (val_len_slice rfl Tryz.underlying24 rfl) ?_
  refine pk_val rfl rfl rfl (val_lss rfl rfl rfl) ?_
  refine pk_nil ?_
  refine thru_on ?_
  refine pk_if rfl (fun h => ?_) (fun h => ?_)
  · skip
    refine pk_skip ?_
    refine thru_on ?_
    refine Pk.tells (hr.some_of (by simp; omega)) fun hA => ?_
    refine pk_seq ?_
    refine pk_block ?_
    refine pk_seq ?_
    refine pk_drawk (.val 0 (.val 1 (.val 2 (.val 3 (.val 4 (.val 5 (.val 6 (.val 7 (.val 8 (.val 9 .nil)))))))))) 1010 [] rfl (by kernel_rfl) (fun _ _ _ _ _ h => h) ?_
    refine ord_val rfl rfl rfl rfl (fun _ h => h) (val_move rfl rfl) ?_
    refine ord_val rfl rfl rfl rfl (fun _ h => h) (val_move rfl rfl) ?_
    refine ord_val rfl rfl rfl rfl (fun _ h => h) (val_indexAddr rfl Tryz.underlying24 1 (by kernel_rfl) rfl rfl _ rfl (by omega) (Ent.pure (by first | rfl | assumption))) ?_
    refine ord_val rfl rfl rfl rfl (fun _ h => h) (val_load rfl Tryz.underlying9 rfl rfl (by first | exact hr.rd (get_map emp (by omega)))) ?_
    refine ord_val rfl rfl rfl rfl (fun _ h => h) (val_move rfl rfl) ?_
    refine ord_val rfl rfl rfl rfl (fun _ h => h) (val_move rfl rfl) ?_
    refine ord_val rfl rfl rfl rfl (fun _ h => h) (val_sub rfl rfl rfl (by omega)) ?_
    refine ord_val rfl rfl rfl rfl (fun _ h => h) (val_indexAddr rfl Tryz.underlying24 1 (by kernel_rfl) rfl rfl (k - 1) (by omega) (by omega) (Ent.pure hA)) ?_
    refine ord_val rfl rfl rfl rfl (fun _ h => h) (val_load rfl Tryz.underlying9 rfl rfl (by first | exact hr.rd (get_map emp (by omega)))) ?_
    refine ord_val rfl rfl rfl rfl (fun _ h => h) (val_str_leq rfl rfl rfl) ?_
    refine ord_nil ?_
    refine thru_on ?_
    refine pk_ifb rfl (fun h2 => ?_) (fun h2 => ?_)
    · skip
      refine pk_seq ?_
      refine pk_region ?_
      refine pk_val rfl rfl rfl (val_assign rfl rfl) ?_
      refine pk_nil ?_
      refine thru_on ?_
      refine pk_ret ?_
      refine in_ret ?_
      refine thru_ret ?_
      refine thru_ret ?_
      refine in_ret ?_
      refine thru_ret ?_
      refine ret1 rfl rfl fun w s => ⟨?_, s⟩
      have h3 : riseB l = false := by
              cases hb : riseB l with
              | false => rfl
              | true =>
                have := (riseB_iff l).1 hb (k - 1) (by omega)
                rw [show k - 1 + 1 = k from by omega] at this
                have h3 := (not_leq _ _).2 this
                rw [h2] at h3; cases h3
      simp [hrisB, h3]
    · skip
      refine pk_skip ?_
      refine in_on ?_
      refine thru_on ?_
      have hn : Rise l (k + 1) := fun j hj => by
              by_cases e : j + 1 = k
              · have := (not_leq _ _).1 h2
                rw [← e] at this
                exact this
              · exact hk j (by omega)
      refine pk_region ?_
      refine pk_val rfl rfl rfl (val_move rfl rfl) ?_
      refine pk_val rfl rfl rfl (val_add rfl rfl rfl (by omega)) ?_
      refine pk_val rfl rfl rfl (val_assign rfl rfl) ?_
      refine pk_nil ?_
      refine thru_on ?_
      refine pk_next (x := k) (k + 1) ?_ ?_ ?_ ?_
      · (try dsimp only) <;> exact ⟨by omega, hn⟩
      · (try dsimp only); exact (by omega)
      · exact ⟨(Sub.cons rfl (by first | rfl | (congr 1; omega) | simp) (Sub.cons rfl (by first | rfl | (congr 1; omega) | simp) (Sub.nil _))), rfl⟩
      · exact (fun _ h => h)
  · skip
    have hR : riseB l = true := (riseB_iff l).2 fun j hj => hk j (by omega)
    refine pk_exit ?_
    refine thru ?_
    refine thru ?_
    refine pk_here ?_
    refine thru_on ?_
    refine pk_seq ?_
    refine pk_region ?_
    refine pk_val rfl rfl rfl (val_move rfl rfl) ?_
    refine pk_val rfl rfl rfl (val_len_slice rfl Tryz.underlying24 rfl) ?_
    refine pk_val rfl rfl rfl (val_geq rfl rfl rfl) ?_
    by_cases h1 : 1 ≤ l.length
    · skip
      refine Pk.slot 22 (v := .bool true) rfl (congrArg Value.bool (decide_eq_true (by omega))) ?_
      refine pk_val rfl rfl rfl (val_move rfl rfl) ?_
      refine pk_guard_yes rfl rfl rfl ?_
      refine pk_val rfl rfl rfl (val_move rfl rfl) ?_
      refine pk_guard_yes rfl rfl rfl ?_
      refine pk_val rfl rfl rfl (val_len_slice rfl Tryz.underlying24 rfl) ?_
      refine pk_guard_yes rfl rfl rfl ?_
      refine pk_val rfl rfl rfl (val_leq rfl rfl rfl) ?_
      refine pk_val rfl rfl rfl (val_pick rfl rfl rfl rfl) ?_
      refine pk_val rfl rfl rfl (val_assign rfl rfl) ?_
      refine pk_nil ?_
      refine thru_on ?_
      refine pk_ret ?_
      refine ret1 rfl rfl fun w s => ⟨?_, s⟩
      have e : hrisB l = decide ((l.length : Int) ≤ 1024) := by rw [hrisB, hR, decide_eq_true h1, Bool.true_and, Bool.true_and]; exact decide_eq_decide.2 (by omega)
      rw [e]; rfl
    · skip
      refine Pk.slot 22 (v := .bool false) rfl (congrArg Value.bool (decide_eq_false (by omega))) ?_
      refine pk_val rfl rfl rfl (val_move rfl rfl) ?_
      refine pk_guard_no rfl rfl rfl rfl rfl rfl ?_
      refine pk_guard_no rfl rfl rfl rfl rfl rfl ?_
      refine pk_guard_no rfl rfl rfl rfl rfl rfl ?_
      refine pk_val rfl rfl rfl (val_pick rfl rfl rfl rfl) ?_
      refine pk_val rfl rfl rfl (val_assign rfl rfl) ?_
      refine pk_nil ?_
      refine thru_on ?_
      refine pk_ret ?_
      refine ret1 rfl rfl fun w s => ⟨?_, s⟩
      have e : hrisB l = false := by rw [hrisB, hR, decide_eq_false h1]; rfl
      rw [e]; rfl
theorem slices_Index_string_c {E w : World} {L : List Ch} {A : Option Addr} {c n : Nat} {l : List ByteArray} {x : ByteArray} (s : Sat E w L) (hr : Ent L (RdL A (l.map .string))) (hn : l.length = n) (hl : n ≤ 4611686018427387904) :
    Calls Tryz.prog 151 #[.slice A n c, .string x] w (Gives E (.int .i64 (idxF (fun y => decide (x = y)) l)) L) := by
  subst hn
  refine enter (vs := [_, _]) Tryz.func151 rfl Tryz.ntmps151 rfl s ?_
  refine pk_seq ?_
  refine pk_region ?_
  refine pk_val rfl rfl rfl (val_assign rfl rfl) ?_
  refine pk_nil ?_
  refine thru_on ?_
  refine pk_seq ?_
  refine pk_seq ?_
  refine pk_region ?_
  refine pk_val rfl rfl rfl (val_move rfl rfl) ?_
  refine pk_val rfl rfl rfl (val_len_slice rfl Tryz.underlying24 rfl) ?_
  refine pk_val rfl rfl rfl (val_move rfl rfl) ?_
  refine pk_nil ?_
  refine thru_on ?_
  refine pk_block ?_
  refine pk_loop (α := Nat) (0) (fun k => [(0, .slice A l.length c), (1, .string x), (7, .int .i64 (l.length : Nat)), (8, .int .i64 (k : Nat))]) (fun k => L) (fun k => k ≤ l.length ∧ ∀ j, j < k → (fun y => decide (x = y)) (l.getD j emp) = false) (fun k => l.length - k) ?_ ?_ ?_ ?_
  · (try dsimp only) <;> exact ⟨Nat.zero_le _, fun j h => by omega⟩
  · exact ⟨(Sub.cons rfl (by first | rfl | (congr 1; omega) | simp) (Sub.cons rfl (by first | rfl | (congr 1; omega) | simp) (Sub.cons rfl (by first | rfl | (congr 1; omega) | simp) (Sub.cons rfl (by first | rfl | (congr 1; omega) | simp) (Sub.nil _))))), rfl⟩
  · exact (fun _ h => h)
  rintro k ⟨hk0, hI⟩
  refine pk_seq ?_
  refine pk_region ?_
  refine pk_val rfl rfl rfl (val_lss rfl rfl rfl) ?_
  refine pk_nil ?_
  refine thru_on ?_
  refine pk_seq ?_
  refine pk_if rfl (fun h => ?_) (fun h => ?_)
  · skip
    refine pk_skip ?_
    refine thru_on ?_
    have hk : k < l.length := by omega
    refine Pk.tells (hr.some_of (by rw [List.length_map]; omega)) fun hA => ?_
    refine pk_seq ?_
    refine pk_block ?_
    refine pk_seq ?_
    refine pk_region ?_
    refine pk_val rfl rfl rfl (val_move rfl rfl) ?_
    refine pk_val rfl rfl rfl (val_assign rfl rfl) ?_
    refine pk_nil ?_
    refine thru_on ?_
    refine pk_seq ?_
    refine pk_region ?_
    refine pk_val rfl rfl rfl (val_move rfl rfl) ?_
    refine pk_val rfl rfl rfl (val_move rfl rfl) ?_
    refine pk_val rfl rfl rfl (val_move rfl rfl) ?_
    refine pk_val rfl rfl rfl (val_indexAddr rfl Tryz.underlying24 1 (by kernel_rfl) rfl rfl k rfl hk (Ent.pure hA)) ?_
    refine pk_val rfl rfl rfl (val_load rfl Tryz.underlying9 rfl rfl (hr.rd (get_map emp hk))) ?_
    refine pk_val rfl rfl rfl (val_str_eql rfl rfl rfl) ?_
    refine pk_nil ?_
    refine thru_on ?_
    refine pk_if rfl (fun h2 => ?_) (fun h2 => ?_)
    · skip
      refine pk_seq ?_
      refine pk_region ?_
      refine pk_val rfl rfl rfl (val_move rfl rfl) ?_
      refine pk_val rfl rfl rfl (val_assign rfl rfl) ?_
      refine pk_nil ?_
      refine thru_on ?_
      refine pk_ret ?_
      refine in_ret ?_
      refine thru_ret ?_
      refine thru_ret ?_
      refine in_ret ?_
      refine thru_ret ?_
      refine ret1 rfl rfl fun w s => ⟨?_, s⟩
      rw [idxF_at emp hk (decide_eq_true h2) hI]
    · skip
      refine pk_skip ?_
      refine in_on ?_
      refine thru_on ?_
      refine pk_region ?_
      refine pk_val rfl rfl rfl (val_add rfl rfl rfl (by omega)) ?_
      refine pk_val rfl rfl rfl (val_move rfl rfl) ?_
      refine pk_nil ?_
      refine thru_on ?_
      refine pk_next (x := k) (k + 1) ?_ ?_ ?_ ?_
      · (try dsimp only) <;> exact ⟨hk, fun j hj => by
        by_cases e : j = k
        · subst e; exact decide_eq_false h2
        · exact hI j (by omega)⟩
      · (try dsimp only); exact (by omega)
      · exact ⟨(Sub.cons rfl (by first | rfl | (congr 1; omega) | simp) (Sub.cons rfl (by first | rfl | (congr 1; omega) | simp) (Sub.cons rfl (by first | rfl | (congr 1; omega) | simp) (Sub.cons rfl (by first | rfl | (congr 1; omega) | simp) (Sub.nil _))))), rfl⟩
      · exact (fun _ h => h)
  · skip
    refine pk_exit ?_
    refine thru ?_
    refine thru ?_
    refine pk_here ?_
    refine thru_on ?_
    refine pk_seq ?_
    refine pk_region ?_
    refine pk_val rfl rfl rfl (val_assign rfl rfl) ?_
    refine pk_nil ?_
    refine thru_on ?_
    refine pk_ret ?_
    have hkk : k = l.length := by omega
    subst hkk
    refine ret1 rfl rfl fun w s => ⟨?_, s⟩
    rw [idxF_no emp hI]
theorem slices_Contains_string_c {E w : World} {L : List Ch} {A : Option Addr} {c n : Nat} {l : List ByteArray} {x : ByteArray} (s : Sat E w L) (hr : Ent L (RdL A (l.map .string))) (hn : l.length = n) (hl : n ≤ 4611686018427387904) :
    Calls Tryz.prog 66 #[.slice A n c, .string x] w (Gives E (.bool (memB l x)) L) := by
  refine enter (vs := [_, _]) Tryz.func66 rfl Tryz.ntmps66 rfl s ?_
  refine pk_seq ?_
  refine pk_region ?_
  refine pk_val rfl rfl rfl (val_assign rfl rfl) ?_
  refine pk_nil ?_
  refine thru_on ?_
  refine pk_seq ?_
  refine pk_region ?_
  refine pk_val rfl rfl rfl (val_move rfl rfl) ?_
  refine pk_val rfl rfl rfl (val_move rfl rfl) ?_
  refine pk_eff (eff_call1 rfl ⟨_, Tryz.func151, by kernel_rfl, rfl⟩ rfl (fun E w s => slices_Index_string_c s hr hn hl)) rfl rfl rfl (fun _ _ => ?_)
  refine pk_val rfl rfl rfl (val_geq rfl rfl rfl) ?_
  refine pk_val rfl rfl rfl (val_assign rfl rfl) ?_
  refine pk_nil ?_
  refine thru_on ?_
  refine pk_ret ?_
  refine ret1 rfl rfl fun w s => ⟨?_, s⟩
  rw [idxF_pos]
  have e : l.any (fun y => decide (x = y)) = memB l x := by simp only [memB, eq_comm]
  rw [e]
/-- a slim version, as data -/
structure Sx where
  key : ByteArray
  id : Int
  val : ByteArray
  f : List Nat
deriving DecidableEq
structure Sl where
  a : Sx
  A : Option Addr
  c : Nat
def Sl.cells (v : Sl) : List Value := [.string v.a.key, .int .u64 v.a.id, .string v.a.val, .slice v.A v.a.f.length v.c]
theorem Sl.cells_len (v : Sl) : v.cells.length = 4 := rfl
def sx0 : Sx := ⟨⟨#[]⟩, 0, ⟨#[]⟩, []⟩
def dSl : Sl := ⟨sx0, none, 0⟩
def slC (v : Sl) : Ch := own v.A v.a.f.length v.c 5 1 (v.a.f.map bV)
def addK (s : List Nat) (b h : Nat) (ks : List ByteArray) : List Nat := ks.foldl (fun s t => addT s b h t) s
theorem addK_take {s : List Nat} {b h : Nat} {ks : List ByteArray} {k : Nat} (hk : k < ks.length) : addK s b h (ks.take (k + 1)) = addT (addK s b h (ks.take k)) b h (ks.getD k emp) := by
  rw [addK, List.take_succ_eq_append_getElem hk, List.foldl_append]; simp [addK, hk]
theorem addK_len (b h : Nat) : ∀ (ks : List ByteArray) (s : List Nat), (addK s b h ks).length = s.length
  | [], s => rfl
  | t :: r, s => by rw [addK, List.foldl_cons]; exact (addK_len b h r _).trans (addT_len _ _ _ _)
theorem Byt.addK (b h : Nat) : ∀ (ks : List ByteArray) {s : List Nat}, Byt s → Byt (Go.Proofs.YtdpckendkklfdaaGreat.addK s b h ks)
  | [], s, hs => hs
  | t :: r, s, hs => by
    rw [Go.Proofs.YtdpckendkklfdaaGreat.addK, List.foldl_cons]
    exact Byt.addK b h r (Byt.addL _ hs)
theorem fiOk_add {b h : Nat} (hm : mayF (b : Int) (h : Int) = true) (ks : List ByteArray) (A : Option Addr) (c : Nat) : FiOk ⟨b, h, addK (zer b) b h ks, A, c⟩ := by
  have := (mayF_iff _ _).1 hm
  exact ⟨by show 1 ≤ b; omega, by show b ≤ 65536; omega, by show 1 ≤ h; omega, by show h ≤ 16; omega, by show (addK (zer b) b h ks).length = sizN b; rw [addK_len]; exact List.length_replicate, Byt.addK b h ks (byt_zer b)⟩
def ofOk (v : Av) (b h : Int) : Bool := mayF b h && (if v.id = 0 then decide (v.val = ⟨#[]⟩) && decide (v.keys.length = 0) else decide (65536 ≤ v.id) && hrisB v.keys && memB v.keys v.key)
def ofX (v : Av) (b h : Int) : Sx := if ofOk v b h = true then (if v.id = 0 then ⟨v.key, 0, ⟨#[]⟩, []⟩ else ⟨v.key, v.id, v.val, filB b.toNat h.toNat (addK (zer b.toNat) b.toNat h.toNat v.keys)⟩) else sx0
def ofE (v : Av) (b h : Int) : Int := if ofOk v b h = true then 0 else 1
theorem hybrid_Of_c {E w : World} {L : List Ch} {v : Ver} {b h : Int} (s : Sat E w L) (hv : Ent L (RdL v.A (v.a.keys.map .string))) (hl : v.a.keys.length ≤ 1099511627776) (hks : ∀ k ∈ v.a.keys, k.size ≤ 4611686018427387904) :
    Calls Tryz.prog 14 #[.agg v.cells.toArray, .agg #[.int .i64 b, .int .i64 h]] w (GivesX E (fun q : Option Addr × Nat => .tuple #[.agg (⟨ofX v.a b h, q.1, q.2⟩ : Sl).cells.toArray, .int .i64 (ofE v.a b h)]) (fun q => slC ⟨ofX v.a b h, q.1, q.2⟩ :: L) (fun _ => True)) := by
  refine enter (vs := [_, _]) Tryz.func14 rfl Tryz.ntmps14 rfl s ?_
  refine pk_seq ?_
  refine pk_region ?_
  refine pk_eff (eff_box rfl rfl rfl) rfl rfl rfl (fun b2 _ => ?_)
  refine pk_eff (eff_box rfl rfl rfl) rfl rfl rfl (fun b3 _ => ?_)
  refine pk_eff (eff_alloc (z := [.string ⟨#[]⟩, .int .u64 0, .string ⟨#[]⟩, .slice none 0 0]) rfl (by kernel_rfl)) rfl rfl rfl (fun b4 _ => ?_)
  refine pk_val rfl rfl rfl (val_assign rfl rfl) ?_
  refine pk_nil ?_
  refine thru_on ?_
  refine pk_seq ?_
  refine pk_region ?_
  by_cases hm : mayF b h = true
  · skip
    have hmm := (mayF_iff _ _).1 hm
    obtain ⟨bn, rfl⟩ := Int.eq_ofNat_of_zero_le (show 0 ≤ b by omega)
    obtain ⟨hn, rfl⟩ := Int.eq_ofNat_of_zero_le (show 0 ≤ h by omega)
    refine pk_val rfl rfl rfl (val_fieldAddr rfl Tryz.underlying35 0 1 (by kernel_rfl) (by decide) rfl (Ent.pure rfl)) ?_
    refine pk_val rfl rfl rfl (val_load rfl Tryz.underlying3 rfl rfl ((Ent.own 1 rfl).rd rfl)) ?_
    refine pk_val rfl rfl rfl (val_fieldAddr rfl Tryz.underlying35 1 1 (by kernel_rfl) (by decide) rfl (Ent.pure rfl)) ?_
    refine pk_val rfl rfl rfl (val_load rfl Tryz.underlying3 rfl rfl ((Ent.own 1 rfl).rd rfl)) ?_
    refine pk_eff (eff_callx rfl ⟨_, Tryz.func64, by kernel_rfl, rfl⟩ rfl (fun E w s => bloom_New_c (b := bn) (h := hn) s hm)) rfl rfl rfl (fun q15 _ => ?_)
    refine pk_val rfl rfl rfl (val_move rfl rfl) ?_
    refine pk_val rfl rfl rfl (val_extract rfl rfl rfl) ?_
    refine pk_val rfl rfl rfl (val_extract rfl rfl rfl) ?_
    refine pk_val rfl rfl rfl (val_assign rfl rfl) ?_
    refine pk_val rfl rfl rfl (val_assign rfl rfl) ?_
    refine pk_nil ?_
    refine thru_on ?_
    refine pk_seq ?_
    refine pk_seq ?_
    refine pk_region ?_
    refine pk_val rfl rfl rfl (val_move rfl rfl) ?_
    refine pk_val rfl rfl rfl (val_neq rfl rfl rfl) ?_
    refine pk_nil ?_
    refine thru_on ?_
    refine pk_cond_f rfl ?_
    refine pk_skip ?_
    refine thru_on ?_
    refine pk_seq ?_
    refine pk_seq ?_
    refine pk_region ?_
    refine pk_val rfl rfl rfl (val_fieldAddr rfl Tryz.underlying26 1 1 (by kernel_rfl) (by decide) rfl (Ent.pure rfl)) ?_
    refine pk_val rfl rfl rfl (val_load (v := .int .u64 v.a.id) rfl Tryz.underlying23 rfl rfl ((Ent.own 3 rfl).rd rfl)) ?_
    refine pk_val rfl rfl rfl (val_eql rfl rfl rfl) ?_
    refine pk_nil ?_
    refine thru_on ?_
    refine pk_if rfl (fun h0 => ?_) (fun h0 => ?_)
    · skip
      refine pk_seq ?_
      refine pk_seq ?_
      refine pk_region ?_
      refine pk_val rfl rfl rfl (val_fieldAddr rfl Tryz.underlying26 2 1 (by kernel_rfl) (by decide) rfl (Ent.pure rfl)) ?_
      refine pk_val rfl rfl rfl (val_load (v := .string v.a.val) rfl Tryz.underlying9 rfl rfl ((Ent.own 3 rfl).rd rfl)) ?_
      refine pk_val rfl rfl rfl (val_str_neq rfl rfl rfl) ?_
      by_cases h2 : v.a.val = ⟨#[]⟩
      · skip
        refine Pk.slot 26 (v := .bool false) rfl (congrArg Value.bool (decide_eq_false (fun e => e h2))) ?_
        refine pk_val rfl rfl rfl (val_move rfl rfl) ?_
        refine pk_guard_yes rfl rfl rfl ?_
        refine pk_val rfl rfl rfl (val_fieldAddr rfl Tryz.underlying26 3 1 (by kernel_rfl) (by decide) rfl (Ent.pure rfl)) ?_
        refine pk_guard_yes rfl rfl rfl ?_
        refine pk_val rfl rfl rfl (val_load (v := .slice v.A v.a.keys.length v.c) rfl Tryz.underlying24 rfl rfl ((Ent.own 3 rfl).rd rfl)) ?_
        refine pk_guard_yes rfl rfl rfl ?_
        refine pk_val rfl rfl rfl (val_len_slice rfl Tryz.underlying24 rfl) ?_
        refine pk_guard_yes rfl rfl rfl ?_
        refine pk_val rfl rfl rfl (val_gtr rfl rfl rfl) ?_
        refine pk_val rfl rfl rfl (val_pick rfl rfl rfl rfl) ?_
        refine pk_nil ?_
        refine thru_on ?_
        refine pk_ifb rfl (fun h1 => ?_) (fun h1 => ?_)
        · skip
          refine pk_seq ?_
          refine pk_region ?_
          refine pk_val rfl rfl rfl (val_build (z := [.string ⟨#[]⟩, .int .u64 0, .string ⟨#[]⟩, .slice none 0 0]) [(0, 1), (1, 1), (2, 1), (3, 1)] rfl Tryz.underlying30 (by kernel_rfl) (by kernel_rfl) rfl rfl rfl) ?_
          refine pk_eff0 (eff_storeW 1 rfl rfl rfl rfl rfl (by kernel_rfl) rfl rfl rfl) rfl rfl (fun _ _ => ?_)
          refine pk_val rfl rfl rfl (val_assign rfl rfl) ?_
          refine pk_nil ?_
          refine thru_on ?_
          refine pk_ret ?_
          refine thru_ret ?_
          refine thru_ret ?_
          have eno : ofOk v.a bn hn = false := by first | (rw [ofOk, hm, if_pos h0, decide_eq_false h2, Bool.false_and, Bool.and_false]; done) | (rw [ofOk, hm, if_pos h0, decide_eq_false (show ¬ v.a.keys.length = 0 by have := of_decide_eq_true h1; omega), Bool.and_false, Bool.and_false])
          have e1 : ofX v.a bn hn = sx0 := by rw [ofX, eno]; rfl
          have e2 : ofE v.a bn hn = 1 := by rw [ofE, eno]; rfl
          rw [e1, e2]
          refine ret2c rfl Tryz.underlying30 rfl (by kernel_rfl) rfl rfl (Ent.pure rfl) (Ent.own 1 rfl) fun w s => ⟨(none, 0), trivial, rfl, s.to fun _ h => Sats.nilrow (Sats.keep [false, false, false, false] h)⟩
        · skip
          refine pk_skip ?_
          refine thru_on ?_
          have hok : ofOk v.a bn hn = true := by rw [ofOk, hm, if_pos h0, decide_eq_true h2, decide_eq_true (show v.a.keys.length = 0 by have := of_decide_eq_false h1; omega)]; rfl
          have e1 : ofX v.a bn hn = ⟨v.a.key, 0, ⟨#[]⟩, []⟩ := by rw [ofX, if_pos hok, if_pos h0]
          have e2 : ofE v.a bn hn = 0 := by rw [ofE, if_pos hok]
          rw [e1, e2]
          refine pk_seq ?_
          refine pk_region ?_
          refine pk_val rfl rfl rfl (val_fieldAddr rfl Tryz.underlying26 0 1 (by kernel_rfl) (by decide) rfl (Ent.pure rfl)) ?_
          refine pk_val rfl rfl rfl (val_load (v := .string v.a.key) rfl Tryz.underlying9 rfl rfl ((Ent.own 3 rfl).rd rfl)) ?_
          refine pk_val rfl rfl rfl (val_build (z := [.string ⟨#[]⟩, .int .u64 0, .string ⟨#[]⟩, .slice none 0 0]) [(0, 1), (1, 1), (2, 1), (3, 1)] rfl Tryz.underlying30 (by kernel_rfl) (by kernel_rfl) rfl rfl rfl) ?_
          refine pk_eff0 (eff_storeW 1 rfl rfl rfl rfl rfl (by kernel_rfl) rfl rfl rfl) rfl rfl (fun _ _ => ?_)
          refine pk_val rfl rfl rfl (val_assign rfl rfl) ?_
          refine pk_nil ?_
          refine thru_on ?_
          refine pk_ret ?_
          refine thru_ret ?_
          refine ret2c rfl Tryz.underlying30 rfl (by kernel_rfl) rfl rfl (Ent.pure rfl) (Ent.own 1 rfl) fun w s => ⟨(none, 0), trivial, rfl, s.to fun _ h => Sats.nilrow (Sats.keep [false, false, false, false] h)⟩
      · skip
        refine Pk.slot 26 (v := .bool true) rfl (congrArg Value.bool (decide_eq_true h2)) ?_
        refine pk_val rfl rfl rfl (val_move rfl rfl) ?_
        refine pk_guard_no rfl rfl rfl rfl rfl rfl ?_
        refine pk_guard_no rfl rfl rfl rfl rfl rfl ?_
        refine pk_guard_no rfl rfl rfl rfl rfl rfl ?_
        refine pk_guard_no rfl rfl rfl rfl rfl rfl ?_
        refine pk_val rfl rfl rfl (val_pick rfl rfl rfl rfl) ?_
        refine pk_nil ?_
        refine thru_on ?_
        refine pk_cond_t rfl ?_
        refine pk_seq ?_
        refine pk_region ?_
        refine pk_val rfl rfl rfl (val_build (z := [.string ⟨#[]⟩, .int .u64 0, .string ⟨#[]⟩, .slice none 0 0]) [(0, 1), (1, 1), (2, 1), (3, 1)] rfl Tryz.underlying30 (by kernel_rfl) (by kernel_rfl) rfl rfl rfl) ?_
        refine pk_eff0 (eff_storeW 1 rfl rfl rfl rfl rfl (by kernel_rfl) rfl rfl rfl) rfl rfl (fun _ _ => ?_)
        refine pk_val rfl rfl rfl (val_assign rfl rfl) ?_
        refine pk_nil ?_
        refine thru_on ?_
        refine pk_ret ?_
        refine thru_ret ?_
        refine thru_ret ?_
        have eno : ofOk v.a bn hn = false := by rw [ofOk, hm, if_pos h0, decide_eq_false h2]; rfl
        have e1 : ofX v.a bn hn = sx0 := by rw [ofX, eno]; rfl
        have e2 : ofE v.a bn hn = 1 := by rw [ofE, eno]; rfl
        rw [e1, e2]
        refine ret2c rfl Tryz.underlying30 rfl (by kernel_rfl) rfl rfl (Ent.pure rfl) (Ent.own 1 rfl) fun w s => ⟨(none, 0), trivial, rfl, s.to fun _ h => Sats.nilrow (Sats.keep [false, false, false, false] h)⟩
    · skip
      refine pk_skip ?_
      refine thru_on ?_
      refine pk_seq ?_
      refine pk_seq ?_
      refine pk_region ?_
      refine pk_val rfl rfl rfl (val_fieldAddr rfl Tryz.underlying26 1 1 (by kernel_rfl) (by decide) rfl (Ent.pure rfl)) ?_
      refine pk_val rfl rfl rfl (val_load (v := .int .u64 v.a.id) rfl Tryz.underlying23 rfl rfl ((Ent.own 3 rfl).rd rfl)) ?_
      refine pk_val rfl rfl rfl (val_lss rfl rfl rfl) ?_
      by_cases hid : 65536 ≤ v.a.id
      · skip
        have hid : decide (65536 ≤ v.a.id) = true := decide_eq_true hid
        refine Pk.slot 39 (v := .bool false) rfl (congrArg Value.bool (decide_eq_false (by have := of_decide_eq_true hid; omega))) ?_
        refine pk_val rfl rfl rfl (val_move rfl rfl) ?_
        refine pk_guard_yes rfl rfl rfl ?_
        refine pk_val rfl rfl rfl (val_fieldAddr rfl Tryz.underlying26 3 1 (by kernel_rfl) (by decide) rfl (Ent.pure rfl)) ?_
        refine pk_guard_yes rfl rfl rfl ?_
        refine pk_val rfl rfl rfl (val_load (v := .slice v.A v.a.keys.length v.c) rfl Tryz.underlying24 rfl rfl ((Ent.own 3 rfl).rd rfl)) ?_
        refine pk_guard_yes rfl rfl rfl ?_
        refine pk_eff (eff_call1 rfl ⟨_, Tryz.func65, by kernel_rfl, rfl⟩ rfl (fun E w s => hybrid_rising_c s hv.cons.cons.cons.cons (by omega))) rfl rfl rfl (fun _ _ => ?_)
        refine pk_guard_yes rfl rfl rfl ?_
        refine pk_val rfl rfl rfl (val_not rfl rfl) ?_
        refine pk_val rfl rfl rfl (val_pick rfl rfl rfl rfl) ?_
        by_cases hris : hrisB v.a.keys = true
        · skip
          refine Pk.slot 45 (v := .bool false) rfl (by rw [hris] <;> rfl) ?_
          refine pk_val rfl rfl rfl (val_move rfl rfl) ?_
          refine pk_guard_yes rfl rfl rfl ?_
          refine pk_val rfl rfl rfl (val_fieldAddr rfl Tryz.underlying26 3 1 (by kernel_rfl) (by decide) rfl (Ent.pure rfl)) ?_
          refine pk_guard_yes rfl rfl rfl ?_
          refine pk_val rfl rfl rfl (val_load (v := .slice v.A v.a.keys.length v.c) rfl Tryz.underlying24 rfl rfl ((Ent.own 3 rfl).rd rfl)) ?_
          refine pk_guard_yes rfl rfl rfl ?_
          refine pk_val rfl rfl rfl (val_fieldAddr rfl Tryz.underlying26 0 1 (by kernel_rfl) (by decide) rfl (Ent.pure rfl)) ?_
          refine pk_guard_yes rfl rfl rfl ?_
          refine pk_val rfl rfl rfl (val_load (v := .string v.a.key) rfl Tryz.underlying9 rfl rfl ((Ent.own 3 rfl).rd rfl)) ?_
          refine pk_guard_yes rfl rfl rfl ?_
          refine pk_eff (eff_call1 rfl ⟨_, Tryz.func66, by kernel_rfl, rfl⟩ rfl (fun E w s => slices_Contains_string_c s hv.cons.cons.cons.cons rfl (by omega))) rfl rfl rfl (fun _ _ => ?_)
          refine pk_guard_yes rfl rfl rfl ?_
          refine pk_val rfl rfl rfl (val_not rfl rfl) ?_
          refine pk_val rfl rfl rfl (val_pick rfl rfl rfl rfl) ?_
          refine pk_nil ?_
          refine thru_on ?_
          refine pk_ifb rfl (fun h1 => ?_) (fun h1 => ?_)
          · skip
            refine pk_seq ?_
            refine pk_region ?_
            refine pk_val rfl rfl rfl (val_build (z := [.string ⟨#[]⟩, .int .u64 0, .string ⟨#[]⟩, .slice none 0 0]) [(0, 1), (1, 1), (2, 1), (3, 1)] rfl Tryz.underlying30 (by kernel_rfl) (by kernel_rfl) rfl rfl rfl) ?_
            refine pk_eff0 (eff_storeW 1 rfl rfl rfl rfl rfl (by kernel_rfl) rfl rfl rfl) rfl rfl (fun _ _ => ?_)
            refine pk_val rfl rfl rfl (val_assign rfl rfl) ?_
            refine pk_nil ?_
            refine thru_on ?_
            refine pk_ret ?_
            refine thru_ret ?_
            have eno : ofOk v.a bn hn = false := by rw [ofOk, hm, if_neg h0, hid, hris, show memB v.a.keys v.a.key = false by simpa using h1]; rfl
            have e1 : ofX v.a bn hn = sx0 := by rw [ofX, eno]; rfl
            have e2 : ofE v.a bn hn = 1 := by rw [ofE, eno]; rfl
            rw [e1, e2]
            refine ret2c rfl Tryz.underlying30 rfl (by kernel_rfl) rfl rfl (Ent.pure rfl) (Ent.own 1 rfl) fun w s => ⟨(none, 0), trivial, rfl, s.to fun _ h => Sats.nilrow (Sats.keep [false, false, false, false] h)⟩
          · skip
            refine pk_skip ?_
            refine thru_on ?_
            have hmem : memB v.a.keys v.a.key = true := by simpa using h1
            have hok : ofOk v.a bn hn = true := by rw [ofOk, hm, if_neg h0, hid, hris, hmem]; rfl
            have e1 : ofX v.a bn hn = ⟨v.a.key, v.a.id, v.a.val, filB bn hn (addK (zer bn) bn hn v.a.keys)⟩ := by rw [ofX, if_pos hok, if_neg h0]; rfl
            have e2 : ofE v.a bn hn = 0 := by rw [ofE, if_pos hok]
            rw [e1, e2]
            refine pk_seq ?_
            refine pk_seq ?_
            refine pk_region ?_
            refine pk_val rfl rfl rfl (val_fieldAddr rfl Tryz.underlying26 3 1 (by kernel_rfl) (by decide) rfl (Ent.pure rfl)) ?_
            refine pk_val rfl rfl rfl (val_load (v := .slice v.A v.a.keys.length v.c) rfl Tryz.underlying24 rfl rfl ((Ent.own 3 rfl).rd rfl)) ?_
            refine pk_val rfl rfl rfl (val_len_slice rfl Tryz.underlying24 rfl) ?_
            refine pk_val rfl rfl rfl (val_move rfl rfl) ?_
            refine pk_nil ?_
            refine thru_on ?_
            refine pk_block ?_
            refine pk_loop (α := Nat) (0) (fun k => [(2, ptr (some ⟨b2, 0, none⟩) 0), (4, ptr (some ⟨b4, 0, none⟩) 0), (6, ptr (some ⟨q15.1, 0, none⟩) 0), (56, .slice v.A v.a.keys.length v.c), (57, .int .i64 (v.a.keys.length : Nat)), (58, .int .i64 (k : Nat))]) (fun k => (fiCh q15.1 ⟨bn, hn, addK (zer bn) bn hn (v.a.keys.take k), some ⟨q15.2, 0, none⟩, sizN bn⟩) :: (own (some ⟨b4, 0, none⟩) 1 1 30 4 [.string ⟨#[]⟩, .int .u64 0, .string ⟨#[]⟩, .slice none 0 0]) :: (own (some ⟨b3, 0, none⟩) 1 1 35 2 [.int .i64 (bn : Nat), .int .i64 (hn : Nat)]) :: (own (some ⟨b2, 0, none⟩) 1 1 26 4 v.cells) :: L) (fun k => k ≤ v.a.keys.length) (fun k => v.a.keys.length - k) ?_ ?_ ?_ ?_
            · (try dsimp only) <;> exact Nat.zero_le _
            · exact ⟨(Sub.cons rfl (by first | rfl | (congr 1; omega) | simp) (Sub.cons rfl (by first | rfl | (congr 1; omega) | simp) (Sub.cons rfl (by first | rfl | (congr 1; omega) | simp) (Sub.cons rfl (by first | rfl | (congr 1; omega) | simp) (Sub.cons rfl (by first | rfl | (congr 1; omega) | simp) (Sub.cons rfl (by first | rfl | (congr 1; omega) | simp) (Sub.nil _))))))), rfl⟩
            · exact (fun _ h => h)
            rintro k hk0
            refine pk_seq ?_
            refine pk_region ?_
            refine pk_val rfl rfl rfl (val_lss rfl rfl rfl) ?_
            refine pk_nil ?_
            refine thru_on ?_
            refine pk_seq ?_
            refine pk_if rfl (fun h2 => ?_) (fun h2 => ?_)
            · skip
              refine pk_skip ?_
              refine thru_on ?_
              have hk : k < v.a.keys.length := by omega
              refine Pk.tells (hv.cons.cons.cons.cons.some_of (by rw [List.length_map]; omega)) fun hA => ?_
              refine pk_seq ?_
              refine pk_block ?_
              refine pk_seq ?_
              refine pk_region ?_
              refine pk_val rfl rfl rfl (val_indexAddr rfl Tryz.underlying24 1 (by kernel_rfl) rfl rfl k rfl hk (Ent.pure hA)) ?_
              refine pk_val rfl rfl rfl (val_load rfl Tryz.underlying9 rfl rfl (hv.cons.cons.cons.cons.rd (get_map emp hk))) ?_
              refine pk_val rfl rfl rfl (val_assign rfl rfl) ?_
              refine pk_nil ?_
              refine thru_on ?_
              refine pk_region ?_
              refine pk_val rfl rfl rfl (val_move rfl rfl) ?_
              refine pk_val rfl rfl rfl (val_move rfl rfl) ?_
              refine pk_eff (eff_call1 rfl ⟨_, Tryz.func67, by kernel_rfl, rfl⟩ rfl (fun E w s => bloom_Add_c (f := ⟨bn, hn, addK (zer bn) bn hn (v.a.keys.take k), some ⟨q15.2, 0, none⟩, sizN bn⟩) s (fiOk_add hm _ _ _) (hks _ (getD_mem emp hk)))) rfl rfl rfl (fun _ _ => ?_)
              refine pk_nil ?_
              refine in_on ?_
              refine thru_on ?_
              refine pk_region ?_
              refine pk_val rfl rfl rfl (val_add rfl rfl rfl (by omega)) ?_
              refine pk_val rfl rfl rfl (val_move rfl rfl) ?_
              refine pk_nil ?_
              refine thru_on ?_
              refine pk_next (x := k) (k + 1) ?_ ?_ ?_ ?_
              · (try dsimp only) <;> exact hk
              · (try dsimp only); exact (by omega)
              · exact ⟨(Sub.cons rfl (by first | rfl | (congr 1; omega) | simp) (Sub.cons rfl (by first | rfl | (congr 1; omega) | simp) (Sub.cons rfl (by first | rfl | (congr 1; omega) | simp) (Sub.cons rfl (by first | rfl | (congr 1; omega) | simp) (Sub.cons rfl (by first | rfl | (congr 1; omega) | simp) (Sub.cons rfl (by first | rfl | (congr 1; omega) | simp) (Sub.nil _))))))), rfl⟩
              · exact (fun _ h => by rw [addK_take hk]; exact h)
            · skip
              have hkk : k = v.a.keys.length := by omega
              rw [hkk, List.take_length]
              refine pk_exit ?_
              refine thru ?_
              refine thru ?_
              refine pk_here ?_
              refine thru_on ?_
              refine pk_seq ?_
              refine pk_drawk (.val 0 (.val 1 (.val 2 (.val 3 (.val 4 (.val 5 (.val 6 (.eff 7 (.val 8 (.eff 9 (.val 10 .nil))))))))))) 1011 [true, false, true, true] rfl (by kernel_rfl) (fun _ _ _ _ _ h => h) ?_
              refine ord_val rfl rfl rfl rfl (fun _ h => (Sats.keep [true, false, true, true] h :)) (val_fieldAddr rfl Tryz.underlying26 0 1 (by kernel_rfl) (by decide) rfl (Ent.pure rfl)) ?_
              refine ord_val rfl rfl rfl rfl (fun _ h => (Sats.keep [true, false, true, true] h :)) (val_load (v := .string v.a.key) rfl Tryz.underlying9 rfl rfl ((Ent.own 2 rfl).rd rfl)) ?_
              refine ord_val rfl rfl rfl rfl (fun _ h => (Sats.keep [true, false, true, true] h :)) (val_fieldAddr rfl Tryz.underlying26 1 1 (by kernel_rfl) (by decide) rfl (Ent.pure rfl)) ?_
              refine ord_val rfl rfl rfl rfl (fun _ h => (Sats.keep [true, false, true, true] h :)) (val_load (v := .int .u64 v.a.id) rfl Tryz.underlying23 rfl rfl ((Ent.own 2 rfl).rd rfl)) ?_
              refine ord_val rfl rfl rfl rfl (fun _ h => (Sats.keep [true, false, true, true] h :)) (val_fieldAddr rfl Tryz.underlying26 2 1 (by kernel_rfl) (by decide) rfl (Ent.pure rfl)) ?_
              refine ord_val rfl rfl rfl rfl (fun _ h => (Sats.keep [true, false, true, true] h :)) (val_load (v := .string v.a.val) rfl Tryz.underlying9 rfl rfl ((Ent.own 2 rfl).rd rfl)) ?_
              refine ord_val rfl rfl rfl rfl (fun _ h => (Sats.keep [true, false, true, true] h :)) (val_move rfl rfl) ?_
              refine ord_eff (eff_callx rfl ⟨_, Tryz.func68, by kernel_rfl, rfl⟩ rfl (fun E w s => bloom_Bytes_c (f := ⟨bn, hn, addK (zer bn) bn hn (v.a.keys), some ⟨q15.2, 0, none⟩, sizN bn⟩) s (fiOk_add hm _ _ _) (fi_in 0 rfl))) rfl rfl rfl rfl (.inr fun _ _ => (fun _ h => (Sats.keep [false, true, false, true, true] h :))) (fun q73 _ => ?_)
              refine ord_val rfl rfl rfl rfl (fun _ h => (Sats.keep [false, true, false, true, true] h :)) (val_build (z := [.string ⟨#[]⟩, .int .u64 0, .string ⟨#[]⟩, .slice none 0 0]) [(0, 1), (1, 1), (2, 1), (3, 1)] rfl Tryz.underlying30 (by kernel_rfl) (by kernel_rfl) rfl rfl rfl) ?_
              refine ord_eff0 (eff_storeW 2 rfl rfl rfl rfl rfl (by kernel_rfl) rfl rfl rfl) rfl rfl rfl (.inr fun _ _ => (fun _ h => (Sats.keep [false, true, false, true, true] h :))) (fun _ _ => ?_)
              refine ord_val rfl rfl rfl rfl (fun _ h => (Sats.keep [false, true, false, true, true] h :)) (val_assign rfl rfl) ?_
              refine ord_nil ?_
              refine thru_on ?_
              refine pk_ret ?_
              refine ret2c rfl Tryz.underlying30 rfl (by kernel_rfl) rfl rfl (Ent.pure rfl) (Ent.own 2 rfl) fun w s => ⟨q73, trivial, rfl, s.to (fun _ h => Sats.keep [true, false, false, false, false] h)⟩
        · skip
          have hris : hrisB v.a.keys = false := by simpa using hris
          refine Pk.slot 45 (v := .bool true) rfl (by rw [hris] <;> rfl) ?_
          refine pk_val rfl rfl rfl (val_move rfl rfl) ?_
          refine pk_guard_no rfl rfl rfl rfl rfl rfl ?_
          refine pk_guard_no rfl rfl rfl rfl rfl rfl ?_
          refine pk_guard_no rfl rfl rfl rfl rfl rfl ?_
          refine pk_guard_no rfl rfl rfl rfl rfl rfl ?_
          refine pk_guard_no rfl rfl rfl rfl rfl rfl ?_
          refine pk_guard_no rfl rfl rfl rfl rfl rfl ?_
          refine pk_val rfl rfl rfl (val_pick rfl rfl rfl rfl) ?_
          refine pk_nil ?_
          refine thru_on ?_
          refine pk_cond_t rfl ?_
          refine pk_seq ?_
          refine pk_region ?_
          refine pk_val rfl rfl rfl (val_build (z := [.string ⟨#[]⟩, .int .u64 0, .string ⟨#[]⟩, .slice none 0 0]) [(0, 1), (1, 1), (2, 1), (3, 1)] rfl Tryz.underlying30 (by kernel_rfl) (by kernel_rfl) rfl rfl rfl) ?_
          refine pk_eff0 (eff_storeW 1 rfl rfl rfl rfl rfl (by kernel_rfl) rfl rfl rfl) rfl rfl (fun _ _ => ?_)
          refine pk_val rfl rfl rfl (val_assign rfl rfl) ?_
          refine pk_nil ?_
          refine thru_on ?_
          refine pk_ret ?_
          refine thru_ret ?_
          have eno : ofOk v.a bn hn = false := by rw [ofOk, hm, if_neg h0, hid, hris]; rfl
          have e1 : ofX v.a bn hn = sx0 := by rw [ofX, eno]; rfl
          have e2 : ofE v.a bn hn = 1 := by rw [ofE, eno]; rfl
          rw [e1, e2]
          refine ret2c rfl Tryz.underlying30 rfl (by kernel_rfl) rfl rfl (Ent.pure rfl) (Ent.own 1 rfl) fun w s => ⟨(none, 0), trivial, rfl, s.to fun _ h => Sats.nilrow (Sats.keep [false, false, false, false] h)⟩
      · skip
        have hid : decide (65536 ≤ v.a.id) = false := decide_eq_false hid
        refine Pk.slot 39 (v := .bool true) rfl (congrArg Value.bool (decide_eq_true (by have := of_decide_eq_false hid; omega))) ?_
        refine pk_val rfl rfl rfl (val_move rfl rfl) ?_
        refine pk_guard_no rfl rfl rfl rfl rfl rfl ?_
        refine pk_guard_no rfl rfl rfl rfl rfl rfl ?_
        refine pk_guard_no rfl rfl rfl rfl rfl rfl ?_
        refine pk_guard_no rfl rfl rfl rfl rfl rfl ?_
        refine pk_val rfl rfl rfl (val_pick rfl rfl rfl rfl) ?_
        refine pk_val rfl rfl rfl (val_move rfl rfl) ?_
        refine pk_guard_no rfl rfl rfl rfl rfl rfl ?_
        refine pk_guard_no rfl rfl rfl rfl rfl rfl ?_
        refine pk_guard_no rfl rfl rfl rfl rfl rfl ?_
        refine pk_guard_no rfl rfl rfl rfl rfl rfl ?_
        refine pk_guard_no rfl rfl rfl rfl rfl rfl ?_
        refine pk_guard_no rfl rfl rfl rfl rfl rfl ?_
        refine pk_val rfl rfl rfl (val_pick rfl rfl rfl rfl) ?_
        refine pk_nil ?_
        refine thru_on ?_
        refine pk_cond_t rfl ?_
        refine pk_seq ?_
        refine pk_region ?_
        refine pk_val rfl rfl rfl (val_build (z := [.string ⟨#[]⟩, .int .u64 0, .string ⟨#[]⟩, .slice none 0 0]) [(0, 1), (1, 1), (2, 1), (3, 1)] rfl Tryz.underlying30 (by kernel_rfl) (by kernel_rfl) rfl rfl rfl) ?_
        refine pk_eff0 (eff_storeW 1 rfl rfl rfl rfl rfl (by kernel_rfl) rfl rfl rfl) rfl rfl (fun _ _ => ?_)
        refine pk_val rfl rfl rfl (val_assign rfl rfl) ?_
        refine pk_nil ?_
        refine thru_on ?_
        refine pk_ret ?_
        refine thru_ret ?_
        have eno : ofOk v.a bn hn = false := by rw [ofOk, hm, if_neg h0, hid]; rfl
        have e1 : ofX v.a bn hn = sx0 := by rw [ofX, eno]; rfl
        have e2 : ofE v.a bn hn = 1 := by rw [ofE, eno]; rfl
        rw [e1, e2]
        refine ret2c rfl Tryz.underlying30 rfl (by kernel_rfl) rfl rfl (Ent.pure rfl) (Ent.own 1 rfl) fun w s => ⟨(none, 0), trivial, rfl, s.to fun _ h => Sats.nilrow (Sats.keep [false, false, false, false] h)⟩
  · skip
    have hm : mayF b h = false := by simpa using hm
    refine pk_val rfl rfl rfl (val_fieldAddr rfl Tryz.underlying35 0 1 (by kernel_rfl) (by decide) rfl (Ent.pure rfl)) ?_
    refine pk_val rfl rfl rfl (val_load rfl Tryz.underlying3 rfl rfl ((Ent.own 1 rfl).rd rfl)) ?_
    refine pk_val rfl rfl rfl (val_fieldAddr rfl Tryz.underlying35 1 1 (by kernel_rfl) (by decide) rfl (Ent.pure rfl)) ?_
    refine pk_val rfl rfl rfl (val_load rfl Tryz.underlying3 rfl rfl ((Ent.own 1 rfl).rd rfl)) ?_
    refine pk_eff (eff_call1 rfl ⟨_, Tryz.func64, by kernel_rfl, rfl⟩ rfl (fun E w s => bloom_New_no s hm)) rfl rfl rfl (fun _ _ => ?_)
    refine pk_val rfl rfl rfl (val_move rfl rfl) ?_
    refine pk_val rfl rfl rfl (val_extract rfl rfl rfl) ?_
    refine pk_val rfl rfl rfl (val_extract rfl rfl rfl) ?_
    refine pk_val rfl rfl rfl (val_assign rfl rfl) ?_
    refine pk_val rfl rfl rfl (val_assign rfl rfl) ?_
    refine pk_nil ?_
    refine thru_on ?_
    refine pk_seq ?_
    refine pk_seq ?_
    refine pk_region ?_
    refine pk_val rfl rfl rfl (val_move rfl rfl) ?_
    refine pk_val rfl rfl rfl (val_neq rfl rfl rfl) ?_
    refine pk_nil ?_
    refine thru_on ?_
    refine pk_cond_t rfl ?_
    refine pk_seq ?_
    refine pk_region ?_
    refine pk_val rfl rfl rfl (val_build (z := [.string ⟨#[]⟩, .int .u64 0, .string ⟨#[]⟩, .slice none 0 0]) [(0, 1), (1, 1), (2, 1), (3, 1)] rfl Tryz.underlying30 (by kernel_rfl) (by kernel_rfl) rfl rfl rfl) ?_
    refine pk_eff0 (eff_storeW 0 rfl rfl rfl rfl rfl (by kernel_rfl) rfl rfl rfl) rfl rfl (fun _ _ => ?_)
    refine pk_val rfl rfl rfl (val_assign rfl rfl) ?_
    refine pk_nil ?_
    refine thru_on ?_
    refine pk_ret ?_
    refine thru_ret ?_
    have eno : ofOk v.a b h = false := by rw [ofOk, hm]; rfl
    have e1 : ofX v.a b h = sx0 := by rw [ofX, eno]; rfl
    have e2 : ofE v.a b h = 1 := by rw [ofE, eno]; rfl
    rw [e1, e2]
    refine ret2c rfl Tryz.underlying30 rfl (by kernel_rfl) rfl rfl (Ent.pure rfl) (Ent.own 0 rfl) fun w s => ⟨(none, 0), trivial, rfl, s.to fun _ h => Sats.nilrow (Sats.keep [false, false, false] h)⟩
end Go.Proofs.YtdpckendkklfdaaGreat
