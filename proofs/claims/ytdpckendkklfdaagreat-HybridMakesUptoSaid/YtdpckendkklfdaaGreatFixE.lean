/- The walks of package fix, fifth part: slices.Clone, Needs, Cut. -/
import Derived.Test.YtdpckendkklfdaaGreatFixD
set_option linter.unusedVariables false
set_option linter.unusedSimpArgs false
set_option maxRecDepth 100000
namespace Go.Proofs.YtdpckendkklfdaaGreat
open Go.RowKit Go.Proofs.Eng
theorem own_clone_nil {t : TypeId} {L : List Ch} {A : Option Addr} {l : List ByteArray} (hr : Ent L (RdL A (l.map .string))) (hA : A = none) {h : Hp} (s : Sats L h) : l = [] := by
  subst hA
  cases l with
  | nil => rfl
  | cons x r =>
    obtain ⟨a, e, _⟩ := hr h s 0 (.string x) (by simp)
    cases e
theorem slices_Clone_string_c {E w : World} {L : List Ch} {A : Option Addr} {c : Nat} {l : List ByteArray} (s : Sat E w L) (hr : Ent L (RdL A (l.map .string))) (hl : l.length ≤ 1099511627776) :
    Calls Tryz.prog 109 #[.slice A l.length c] w (GivesX E (fun q : Option Addr × Nat => .slice q.1 l.length q.2) (fun q => own q.1 l.length q.2 9 1 (l.map .string) :: L) (fun _ => True)) := by
  refine enter (vs := [_]) Tryz.func109 rfl Tryz.ntmps109 rfl s ?_
  refine pk_seq ?_
  refine pk_region ?_
  refine pk_val rfl rfl rfl (val_assign rfl rfl) ?_
  refine pk_nil ?_
  refine thru_on ?_
  refine pk_seq ?_
  refine pk_seq ?_
  refine pk_region ?_
  refine pk_val rfl rfl rfl (val_move rfl rfl) ?_
  refine pk_val rfl rfl rfl (val_slice_nil rfl Tryz.underlying24 rfl rfl) ?_
  refine pk_nil ?_
  refine thru_on ?_
  refine pk_ifb rfl (fun h => ?_) (fun h => ?_)
  · skip
    have hA : A = none := by simpa using h
    refine Pk.tells (fun _ s => own_clone_nil (t := 0) hr hA s) fun hl0 => ?_
    refine pk_seq ?_
    refine pk_region ?_
    refine pk_val rfl rfl rfl (val_assign rfl rfl) ?_
    refine pk_nil ?_
    refine thru_on ?_
    refine pk_ret ?_
    refine thru_ret ?_
    subst hl0
    refine ret1 rfl rfl fun w s => ⟨(none, 0), trivial, rfl, s.to fun _ h => Sats.nilrow h⟩
  · skip
    refine pk_skip ?_
    refine thru_on ?_
    refine pk_seq ?_
    refine pk_region ?_
    refine pk_eff (eff_build0 rfl Tryz.underlying24 1 (by kernel_rfl)) rfl rfl rfl (fun b5 _ => ?_)
    refine pk_val rfl rfl rfl (val_move rfl rfl) ?_
    refine pk_eff (eff_append1 (sz := 1) (bytes := 16) (z := .string ⟨#[]⟩) 0 rfl Tryz.underlying24 (by kernel_rfl) rfl (by decide) (by decide) rfl rfl rfl hr.cons rfl (by simp) (by simp [Value.oneCell']) (by omega)) rfl rfl rfl (fun q7 _ => ?_)
    refine pk_val rfl rfl rfl (val_assign rfl rfl) ?_
    refine pk_nil ?_
    refine thru_on ?_
    refine pk_ret ?_
    refine ret1 rfl rfl fun w s => ⟨q7, trivial, ?_, s.to fun _ h => ?_⟩
    · simp only [Nat.zero_add]
    · rw [Nat.zero_add, List.nil_append] at h; exact h
abbrev wantC : ByteArray × Int → List Value := fun p => [.string p.1, .int .u64 p.2]
theorem wantC_len (p : ByteArray × Int) : (wantC p).length = 2 := rfl
def needF (l : List Av) (v : Av) : Option (ByteArray × Int) := if v.id < grt l v.key then some (v.key, grt l v.key) else none
def needsK (l : List Av) (k : Nat) : List (ByteArray × Int) := (l.take k).filterMap (needF l)
def needsL (l : List Av) : List (ByteArray × Int) := if formedB l = true then l.filterMap (needF l) else []
def errN (l : List Av) : Int := if formedB l = true then 0 else 1
theorem needsK_len (l : List Av) (k : Nat) : (needsK l k).length ≤ k := by
  have h1 := List.length_filterMap_le (needF l) (l.take k)
  have h2 : (l.take k).length ≤ k := by simp; omega
  simp only [needsK]; omega
theorem needsK_succ {l : List Av} {k : Nat} {v : Av} (h : l[k]? = some v) : needsK l (k + 1) = needsK l k ++ (needF l v).toList := by
  have hk : k < l.length := (List.getElem?_eq_some_iff.1 h).1
  have hg : l[k] = v := (List.getElem?_eq_some_iff.1 h).2
  simp only [needsK, List.take_succ_eq_append_getElem hk, List.filterMap_append, hg]
  cases e : needF l v <;> simp [e]
theorem grtL_get {l : List Av} {k : Nat} {v : Av} (h : l[k]? = some v) : (grtL l).getD k 0 = grt l v.key := by simp [grtL, h]
theorem formedB_go {l : List Av} (h : formedB l = true) : formedGo [] l = true := by simp only [formedB, Bool.and_eq_true] at h; exact h.2
theorem formedB_len {l : List Av} (h : formedB l = true) : l.length ≤ 1024 := by simp only [formedB, Bool.and_eq_true, decide_eq_true_eq] at h; exact h.1.2
theorem fix_Needs_c {E w : World} {L : List Ch} {A : Option Addr} {c : Nat} {vs : List Ver} (s : Sat E w L) (hV : VerIn L A vs) :
    Calls Tryz.prog 36 #[.slice A vs.length c] w (GivesX E (fun q : Option Addr × Nat => .tuple #[.slice q.1 (needsL (avs vs)).length q.2, .int .i64 (errN (avs vs))]) (fun q => own q.1 (needsL (avs vs)).length q.2 91 2 ((needsL (avs vs)).flatMap wantC) :: L) (fun _ => True)) := by
  refine enter (vs := [_]) Tryz.func36 rfl Tryz.ntmps36 rfl s ?_
  refine pk_seq ?_
  refine pk_region ?_
  refine pk_val rfl rfl rfl (val_assign rfl rfl) ?_
  refine pk_val rfl rfl rfl (val_assign rfl rfl) ?_
  refine pk_nil ?_
  refine thru_on ?_
  refine pk_seq ?_
  refine pk_seq ?_
  refine pk_region ?_
  refine pk_val rfl rfl rfl (val_move rfl rfl) ?_
  refine pk_eff (eff_call1 rfl ⟨_, Tryz.func98, by kernel_rfl, rfl⟩ rfl (fun E w s => fix_Formed_c s hV)) rfl rfl rfl (fun _ _ => ?_)
  refine pk_val rfl rfl rfl (val_not rfl rfl) ?_
  refine pk_nil ?_
  refine thru_on ?_
  refine pk_ifn rfl (fun hf => ?_) (fun hf => ?_)
  · skip
    refine pk_seq ?_
    refine pk_region ?_
    refine pk_val rfl rfl rfl (val_assign rfl rfl) ?_
    refine pk_val rfl rfl rfl (val_assign rfl rfl) ?_
    refine pk_nil ?_
    refine thru_on ?_
    refine pk_ret ?_
    refine thru_ret ?_
    refine ret2 rfl rfl rfl fun w s => ⟨(none, 0), trivial, ?_, s.to fun _ h => ?_⟩
    · simp [errN, needsL, hf]
    · have e : needsL (avs vs) = [] := by simp [needsL, hf]
      rw [e]; exact Sats.nilrow h
  · skip
    refine pk_skip ?_
    refine thru_on ?_
    have hG := formedB_go hf
    have hlen := formedB_len hf
    have hal : (avs vs).length = vs.length := by simp [avs]
    rw [hal] at hlen
    refine Pk.nilrow 91 2 ?_
    refine pk_seq ?_
    refine pk_region ?_
    refine pk_val rfl rfl rfl (val_assign rfl rfl) ?_
    refine pk_nil ?_
    refine thru_on ?_
    refine pk_seq ?_
    refine pk_seq ?_
    refine pk_region ?_
    refine pk_val rfl rfl rfl (val_move rfl rfl) ?_
    refine pk_eff (eff_callx rfl ⟨_, Tryz.func99, by kernel_rfl, rfl⟩ rfl (fun E w s => fix_greatest_c s hV.cons hG hlen)) rfl rfl rfl (fun b11 _ => ?_)
    refine pk_val rfl rfl rfl (val_len_slice rfl Tryz.underlying54 rfl) ?_
    refine pk_val rfl rfl rfl (val_move rfl rfl) ?_
    refine pk_nil ?_
    refine thru_on ?_
    refine pk_block ?_
    refine pk_loop (α := Nat × Option Addr × Nat) ((0, none, 0)) (fun y => [(4, .slice y.2.1 (needsK (avs vs) y.1).length y.2.2), (0, .slice A vs.length c), (11, .slice (some ⟨b11, 0, none⟩) vs.length vs.length), (12, .int .i64 (vs.length : Nat)), (13, .int .i64 (y.1 : Nat))]) (fun y => (own y.2.1 (needsK (avs vs) y.1).length y.2.2 91 2 ((needsK (avs vs) y.1).flatMap wantC)) :: (own (some ⟨b11, 0, none⟩) vs.length vs.length 23 1 ((grtL (avs vs)).map (Value.int .u64))) :: L) (fun y => y.1 ≤ vs.length) (fun y => vs.length - y.1) ?_ ?_ ?_ ?_
    · (try dsimp only) <;> exact Nat.zero_le _
    · exact ⟨(Sub.cons rfl (by first | rfl | (congr 1; omega) | simp) (Sub.cons rfl (by first | rfl | (congr 1; omega) | simp) (Sub.cons rfl (by first | rfl | (congr 1; omega) | simp) (Sub.cons rfl (by first | rfl | (congr 1; omega) | simp) (Sub.cons rfl (by first | rfl | (congr 1; omega) | simp) (Sub.nil _)))))), rfl⟩
    · exact (fun _ h => Sats.swap h)
    rintro ⟨k, q, d⟩ hk0
    dsimp only at hk0 ⊢
    refine pk_seq ?_
    refine pk_region ?_
    refine pk_val rfl rfl rfl (val_lss rfl rfl rfl) ?_
    refine pk_nil ?_
    refine thru_on ?_
    refine pk_seq ?_
    refine pk_if rfl (fun h1 => ?_) (fun h1 => ?_)
    · skip
      refine pk_skip ?_
      refine thru_on ?_
      have hk : k < vs.length := by omega
      have hgl := grtL_get (avs_get hk)
      have hnk := needsK_len (avs vs) k
      refine Pk.tells (hV.cons.cons.rows.some_of (by rw [flat_length Ver.cells_len]; omega)) fun hA => ?_
      refine pk_seq ?_
      refine pk_block ?_
      refine pk_seq ?_
      refine pk_region ?_
      refine pk_val rfl rfl rfl (val_move rfl rfl) ?_
      refine pk_val rfl rfl rfl (val_indexAddr rfl Tryz.underlying54 1 (by kernel_rfl) rfl rfl k rfl hk (Ent.pure rfl)) ?_
      refine pk_val rfl rfl rfl (val_load (v := .int .u64 ((grtL (avs vs)).getD k 0)) rfl Tryz.underlying23 rfl rfl ((Ent.own 1 rfl).rd (get_map 0 (by simp [grtL, hal]; omega)))) ?_
      refine pk_val rfl rfl rfl (val_assign rfl rfl) ?_
      refine pk_val rfl rfl rfl (val_assign rfl rfl) ?_
      refine pk_nil ?_
      refine thru_on ?_
      refine pk_seq ?_
      refine pk_region ?_
      refine pk_val rfl rfl rfl (val_move rfl rfl) ?_
      refine pk_val rfl rfl rfl (val_move rfl rfl) ?_
      refine pk_val rfl rfl rfl (val_move rfl rfl) ?_
      refine pk_val rfl rfl rfl (val_indexAddr rfl Tryz.underlying84 4 (by kernel_rfl) rfl rfl k rfl hk (Ent.pure hA)) ?_
      refine pk_val rfl rfl rfl (val_fieldAddr rfl Tryz.underlying26 1 1 (by kernel_rfl) (by decide) rfl (Ent.pure (by first | rfl | assumption))) ?_
      refine pk_val rfl rfl rfl (val_load rfl Tryz.underlying23 rfl rfl (hV.cons.cons.rows.rd ((get_flat Ver.cells_len dV hk (by decide)).trans rfl))) ?_
      refine pk_val rfl rfl rfl (val_gtr rfl rfl rfl) ?_
      refine pk_nil ?_
      refine thru_on ?_
      refine pk_if rfl (fun h2 => ?_) (fun h2 => ?_)
      · skip
        have hnf : needF (avs vs) (vs.getD k dV).a = some ((vs.getD k dV).a.key, grt (avs vs) (vs.getD k dV).a.key) := by rw [hgl] at h2; simp only [needF, h2, if_true]
        refine pk_region ?_
        refine pk_val rfl rfl rfl (val_move rfl rfl) ?_
        refine pk_val rfl rfl rfl (val_move rfl rfl) ?_
        refine pk_val rfl rfl rfl (val_move rfl rfl) ?_
        refine pk_val rfl rfl rfl (val_indexAddr rfl Tryz.underlying84 4 (by kernel_rfl) rfl rfl k rfl hk (Ent.pure hA)) ?_
        refine pk_val rfl rfl rfl (val_fieldAddr rfl Tryz.underlying26 0 1 (by kernel_rfl) (by decide) rfl (Ent.pure (by first | rfl | assumption))) ?_
        refine pk_val rfl rfl rfl (val_load rfl Tryz.underlying9 rfl rfl (hV.cons.cons.rows.rd ((get_flat Ver.cells_len dV hk (by decide)).trans rfl))) ?_
        refine pk_val rfl rfl rfl (val_move rfl rfl) ?_
        refine pk_val rfl rfl rfl (val_build (z := [.string ⟨#[]⟩, .int .u64 0]) [(0, 1), (1, 1)] rfl Tryz.underlying91 (by kernel_rfl) (by kernel_rfl) rfl rfl rfl) ?_
        refine pk_eff (eff_buildSlice (len := 1) (sz := 2) (z := #[.string ⟨#[]⟩, .int .u64 0]) rfl Tryz.underlying87 (by kernel_rfl) rfl rfl rfl (by decide) (by decide) rfl rfl) rfl rfl rfl (fun b33 _ => ?_)
        refine pk_eff (eff_append1 (sz := 2) (bytes := 24) (z := .agg #[.string ⟨#[]⟩, .int .u64 0]) 1 rfl Tryz.underlying87 (by kernel_rfl) rfl (by decide) (by decide) rfl rfl rfl (Ent.own 0 rfl) (by first | rfl | (simp; done) | exact flat_length (s := 2) (fun _ => rfl) _) (by first | rfl | (simp; done)) rfl (by omega)) rfl rfl rfl (fun q34 _ => ?_)
        refine pk_val rfl rfl rfl (val_assign rfl rfl) ?_
        refine pk_nil ?_
        refine in_on ?_
        refine thru_on ?_
        refine pk_region ?_
        refine pk_val rfl rfl rfl (val_add rfl rfl rfl (by omega)) ?_
        refine pk_val rfl rfl rfl (val_move rfl rfl) ?_
        refine pk_nil ?_
        refine thru_on ?_
        refine pk_next (x := ⟨k, q, d⟩) ((k + 1, q34.1, q34.2)) ?_ ?_ ?_ ?_
        · (try dsimp only) <;> exact hk
        · (try dsimp only); exact (by omega)
        · exact ⟨(Sub.cons rfl (by (try dsimp only); rw [needsK_succ (avs_get hk), hnf]; simp) (Sub.cons rfl (by first | rfl | (congr 1; omega) | simp) (Sub.cons rfl (by first | rfl | (congr 1; omega) | simp) (Sub.cons rfl (by first | rfl | (congr 1; omega) | simp) (Sub.cons rfl (by first | rfl | (congr 1; omega) | simp) (Sub.nil _)))))), rfl⟩
        · exact (fun _ h => by (try dsimp only); rw [needsK_succ (avs_get hk), hnf, ← hgl, List.flatMap_append, List.length_append]; exact Sats.keep [false, true, true] h)
      · skip
        refine pk_skip ?_
        refine in_on ?_
        refine thru_on ?_
        have hnf : needF (avs vs) (vs.getD k dV).a = none := by rw [hgl] at h2; simp only [needF, h2, if_false]
        refine pk_region ?_
        refine pk_val rfl rfl rfl (val_add rfl rfl rfl (by omega)) ?_
        refine pk_val rfl rfl rfl (val_move rfl rfl) ?_
        refine pk_nil ?_
        refine thru_on ?_
        refine pk_next (x := ⟨k, q, d⟩) ((k + 1, q, d)) ?_ ?_ ?_ ?_
        · (try dsimp only) <;> exact hk
        · (try dsimp only); exact (by omega)
        · exact ⟨(Sub.cons rfl (by (try dsimp only); rw [needsK_succ (avs_get hk), hnf]; simp) (Sub.cons rfl (by first | rfl | (congr 1; omega) | simp) (Sub.cons rfl (by first | rfl | (congr 1; omega) | simp) (Sub.cons rfl (by first | rfl | (congr 1; omega) | simp) (Sub.cons rfl (by first | rfl | (congr 1; omega) | simp) (Sub.nil _)))))), rfl⟩
        · exact (fun _ h => by (try dsimp only); rw [needsK_succ (avs_get hk), hnf]; simpa using h)
    · skip
      refine pk_exit ?_
      refine thru ?_
      refine thru ?_
      refine pk_here ?_
      refine thru_on ?_
      refine pk_seq ?_
      refine pk_region ?_
      refine pk_val rfl rfl rfl (val_move rfl rfl) ?_
      refine pk_val rfl rfl rfl (val_assign rfl rfl) ?_
      refine pk_val rfl rfl rfl (val_assign rfl rfl) ?_
      refine pk_nil ?_
      refine thru_on ?_
      refine pk_ret ?_
      have hkk : k = vs.length := by omega
      subst hkk
      have e : needsK (avs vs) vs.length = needsL (avs vs) := by rw [needsK, needsL, if_pos hf, List.take_of_length_le (by omega)]
      rw [e]
      refine ret2 rfl rfl rfl fun w s => ⟨(q, d), trivial, by simp [errN, hf], s.to fun _ h => Sats.keep [true, false] h⟩
def cutB (l : List Av) : Bool := formedB l && decide (needsL l = [])
theorem errN_zero (l : List Av) : decide (errN l = 0) = formedB l := by
  cases e : formedB l <;> simp [errN, e]
theorem fix_Cut_c {E w : World} {L : List Ch} {A : Option Addr} {c : Nat} {vs : List Ver} (s : Sat E w L) (hV : VerIn L A vs) :
    Calls Tryz.prog 53 #[.slice A vs.length c] w (Gives E (.bool (cutB (avs vs))) L) := by
  refine enter (vs := [_]) Tryz.func53 rfl Tryz.ntmps53 rfl s ?_
  refine pk_seq ?_
  refine pk_region ?_
  refine pk_val rfl rfl rfl (val_assign rfl rfl) ?_
  refine pk_nil ?_
  refine thru_on ?_
  refine pk_seq ?_
  refine pk_region ?_
  refine pk_val rfl rfl rfl (val_move rfl rfl) ?_
  refine pk_eff (eff_callx rfl ⟨_, Tryz.func36, by kernel_rfl, rfl⟩ rfl (fun E w s => fix_Needs_c s hV)) rfl rfl rfl (fun q7 _ => ?_)
  refine pk_val rfl rfl rfl (val_move rfl rfl) ?_
  refine pk_val rfl rfl rfl (val_extract rfl rfl rfl) ?_
  refine pk_val rfl rfl rfl (val_extract rfl rfl rfl) ?_
  refine pk_val rfl rfl rfl (val_assign rfl rfl) ?_
  refine pk_val rfl rfl rfl (val_assign rfl rfl) ?_
  refine pk_nil ?_
  refine thru_on ?_
  refine pk_seq ?_
  refine pk_region ?_
  refine pk_val rfl rfl rfl (val_move rfl rfl) ?_
  refine pk_val rfl rfl rfl (val_eql rfl rfl rfl) ?_
  refine pk_val rfl rfl rfl (val_move rfl rfl) ?_
  by_cases hf : formedB (avs vs) = true
  · skip
    refine Pk.slot 12 (v := .bool true) rfl (by rw [errN_zero, hf]) ?_
    refine pk_guard_yes rfl rfl rfl ?_
    refine pk_val rfl rfl rfl (val_move rfl rfl) ?_
    refine pk_guard_yes rfl rfl rfl ?_
    refine pk_val rfl rfl rfl (val_len_slice rfl Tryz.underlying87 rfl) ?_
    refine pk_guard_yes rfl rfl rfl ?_
    refine pk_val rfl rfl rfl (val_eql rfl rfl rfl) ?_
    refine pk_val rfl rfl rfl (val_pick rfl rfl rfl rfl) ?_
    refine pk_val rfl rfl rfl (val_assign rfl rfl) ?_
    refine pk_nil ?_
    refine thru_on ?_
    refine pk_ret ?_
    refine ret1 rfl rfl fun w s => ⟨?_, s.to fun _ h => h.tail⟩
    have e : cutB (avs vs) = decide ((((needsL (avs vs)).length : Nat) : Int) = 0) := by simp [cutB, hf]
    rw [e]; rfl
  · skip
    have hf' : formedB (avs vs) = false := by simpa using hf
    refine Pk.slot 12 (v := .bool false) rfl (by rw [errN_zero, hf']) ?_
    refine pk_guard_no rfl rfl rfl rfl rfl rfl ?_
    refine pk_guard_no rfl rfl rfl rfl rfl rfl ?_
    refine pk_guard_no rfl rfl rfl rfl rfl rfl ?_
    refine pk_val rfl rfl rfl (val_pick rfl rfl rfl rfl) ?_
    refine pk_val rfl rfl rfl (val_assign rfl rfl) ?_
    refine pk_nil ?_
    refine thru_on ?_
    refine pk_ret ?_
    refine ret1 rfl rfl fun w s => ⟨?_, s.to fun _ h => h.tail⟩
    have e : cutB (avs vs) = false := by simp [cutB, hf']
    rw [e]; rfl
end Go.Proofs.YtdpckendkklfdaaGreat
