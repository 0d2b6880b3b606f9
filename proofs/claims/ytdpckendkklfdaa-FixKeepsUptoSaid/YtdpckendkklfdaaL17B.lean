/- The walks of rampartlaw17, second part: brought, same. -/
import Derived.Test.YtdpckendkklfdaaL17A
set_option linter.unusedVariables false
set_option linter.unusedSimpArgs false
set_option maxRecDepth 100000
namespace Go.Proofs.Ytdpckendkklfdaa
open Go.RowKit Go.Proofs.Eng
theorem keysB_pos (mask : Int) : 0 < (keysB mask).length := by
  unfold keysB
  split
  · simp
  · rename_i h
    exact List.length_pos_iff.2 h
theorem keysB_len (mask : Int) : (keysB mask).length ≤ 8 := by
  unfold keysB
  split
  · simp
  · exact keysK_len mask 8
theorem keysB_mem {mask : Int} {s : ByteArray} (h : s ∈ keysB mask) : ∃ i, i < 8 ∧ s = keyB i := by
  unfold keysB at h
  split at h
  · simp at h; exact ⟨0, by omega, h⟩
  · simp only [keysK, List.mem_map, List.mem_filter, List.mem_range] at h
    obtain ⟨i, ⟨h1, _⟩, h2⟩ := h
    exact ⟨i, h1, h2.symm⟩
theorem keyB_size (i : Nat) : (keyB i).size = 1 := by rw [keyB, strOfNums_size]; rfl
def botAv (k : ByteArray) : Av := ⟨k, 0, emp, []⟩
def someK (masks : List Int) (k : ByteArray) (w : Nat) : List Av := botAv k :: ((List.range w).filter (fun w => memB (keysB (masks.getD w 0)) k)).map (fun w => madeAv masks w k)
theorem someK_succ (masks : List Int) (k : ByteArray) (w : Nat) : someK masks k (w + 1) = someK masks k w ++ (if memB (keysB (masks.getD w 0)) k = true then [madeAv masks w k] else []) := by
  simp only [someK, List.range_succ, List.filter_append, List.map_append, List.cons_append]
  congr 2
  by_cases h : memB (keysB (masks.getD w 0)) k = true
  · rw [if_pos h, List.filter_cons_of_pos (by simpa using h)]; rfl
  · rw [if_neg h, List.filter_cons_of_neg (by simpa using h)]; rfl
theorem someK_len (masks : List Int) (k : ByteArray) (w : Nat) : (someK masks k w).length ≤ w + 1 := by
  have := List.length_filter_le (fun w => memB (keysB (masks.getD w 0)) k) (List.range w)
  simp only [someK, List.length_cons, List.length_map]
  simp at this ⊢
  omega
def readKey (read turn : Int) (i : Nat) : ByteArray := (keysB read).getD ((i + restN turn ((keysB read).length - 1)) % (keysB read).length) emp
def pickN (picks : List Int) (i : Nat) : Int := if i < picks.length then picks.getD i 0 else 0
def dAv : Av := ⟨emp, 0, emp, []⟩
def pickB (masks : List Int) (read turn : Int) (picks : List Int) (i : Nat) : Av :=
  (someK masks (readKey read turn i) masks.length).getD (restN (pickN picks i) ((someK masks (readKey read turn i) masks.length).length - 1)) dAv
def broughtK (masks : List Int) (read turn : Int) (picks : List Int) (k : Nat) : List Av := (List.range k).map (pickB masks read turn picks)
def broughtL (masks : List Int) (read turn : Int) (picks : List Int) : List Av := broughtK masks read turn picks (keysB read).length
theorem broughtK_succ (masks : List Int) (read turn : Int) (picks : List Int) (k : Nat) : broughtK masks read turn picks (k + 1) = broughtK masks read turn picks k ++ [pickB masks read turn picks k] := by
  simp [broughtK, List.range_succ]
theorem avs_snoc (vs : List Ver) (v : Ver) : avs (vs ++ [v]) = avs vs ++ [v.a] := by simp [avs]
theorem avs_len (vs : List Ver) : (avs vs).length = vs.length := by simp [avs]
theorem avs_getD {vs : List Ver} {k : Nat} (h : k < vs.length) : (avs vs).getD k dAv = (vs.getD k dV).a := by simp [avs, h]
theorem law17_brought_c {E w : World} {L : List Ch} {M K : Option Addr} {c d : Nat} {masks picks : List Int} {read turn : Int} (s : Sat E w L) (hM : Ent L (RdL M (masks.map (.int .i64)))) (hK : Ent L (RdL K (picks.map (.int .i64)))) (hml : masks.length ≤ 60) (hpl : picks.length ≤ 1099511627776) :
    Calls Try.prog 6 #[.slice M masks.length c, .int .i64 read, .int .i64 turn, .slice K picks.length d] w (GivesX E (fun q : Option Addr × Nat × List Ver => .slice q.1 q.2.2.length q.2.1) (fun q => own q.1 q.2.2.length q.2.1 36 4 (q.2.2.flatMap Ver.cells) :: cat (q.2.2.map keysCh) :: L) (fun q => avs q.2.2 = broughtL masks read turn picks)) := by
  refine enter (vs := [_, _, _, _]) Try.func6 rfl Try.ntmps6 rfl s ?_
  have hkp := keysB_pos read
  have hk8 := keysB_len read
  refine Pk.nilrow 36 4 ?_
  refine Pk.heap (fun _ h => Sats.cat_nil (f := keysCh) h) ?_
  refine pk_seq ?_
  refine pk_region ?_
  refine pk_val rfl rfl rfl (val_assign rfl rfl) ?_
  refine pk_nil ?_
  refine thru_on ?_
  refine pk_seq ?_
  refine pk_region ?_
  refine pk_val rfl rfl rfl (val_move rfl rfl) ?_
  refine pk_eff (eff_callx rfl ⟨_, Try.func25, by kernel_rfl, rfl⟩ rfl (fun E w s => law17_keys_c s)) rfl rfl rfl (fun q17 _ => ?_)
  refine pk_val rfl rfl rfl (val_assign rfl rfl) ?_
  refine pk_nil ?_
  refine thru_on ?_
  refine pk_seq ?_
  refine pk_region ?_
  refine pk_val rfl rfl rfl (val_assign rfl rfl) ?_
  refine pk_nil ?_
  refine thru_on ?_
  refine pk_seq ?_
  refine pk_seq ?_
  refine pk_region ?_
  refine pk_val rfl rfl rfl (val_assign rfl rfl) ?_
  refine pk_nil ?_
  refine thru_on ?_
  refine pk_block ?_
  refine pk_loop (α := Nat × Option Addr × Nat × List Ver) ((0, none, 0, [])) (fun y => [(0, .slice M masks.length c), (2, .int .i64 turn), (3, .slice K picks.length d), (9, .slice q17.1 (keysB read).length q17.2), (10, .slice y.2.1 y.2.2.2.length y.2.2.1), (11, .int .i64 (y.1 : Nat))]) (fun y => (own y.2.1 (y.2.2.2).length y.2.2.1 36 4 ((y.2.2.2).flatMap Ver.cells)) :: (cat (y.2.2.2.map keysCh)) :: (own q17.1 (keysB read).length q17.2 9 1 ((keysB read).map .string)) :: L) (fun y => y.1 ≤ (keysB read).length ∧ avs y.2.2.2 = broughtK masks read turn picks y.1) (fun y => (keysB read).length - y.1) ?_ ?_ ?_ ?_
  · (try dsimp only); exact ⟨Nat.zero_le _, rfl⟩
  · exact ⟨(Sub.cons rfl (by first | rfl | (congr 1; omega) | simp) (Sub.cons rfl (by first | rfl | (congr 1; omega) | simp) (Sub.cons rfl (by first | rfl | (congr 1; omega) | simp) (Sub.cons rfl (by first | rfl | (congr 1; omega) | simp) (Sub.cons rfl (by first | rfl | (congr 1; omega) | simp) (Sub.cons rfl (by first | rfl | (congr 1; omega) | simp) (Sub.nil _))))))), rfl⟩
  · exact (fun _ h => (Sats.pick 3 [2, 1, 0] rfl h :))
  rintro ⟨i, q, e, outs⟩ ⟨hi0, hI⟩
  dsimp only at hi0 hI ⊢
  have hol : outs.length = i := by have := congrArg List.length hI; simp [avs, broughtK] at this; omega
  refine pk_seq ?_
  refine pk_seq ?_
  refine pk_region ?_
  refine pk_val rfl rfl rfl (val_move rfl rfl) ?_
  refine pk_val rfl rfl rfl (val_move rfl rfl) ?_
  refine pk_val rfl rfl rfl (val_len_slice rfl Try.underlying34 rfl) ?_
  refine pk_val rfl rfl rfl (val_lss rfl rfl rfl) ?_
  refine pk_nil ?_
  refine thru_on ?_
  refine pk_if rfl (fun h1 => ?_) (fun h1 => ?_)
  · skip
    refine pk_skip ?_
    refine thru_on ?_
    have hi : i < (keysB read).length := by omega
    have hrl := restN_le turn ((keysB read).length - 1)
    obtain ⟨j, hj⟩ : ∃ j, j = (i + restN turn ((keysB read).length - 1)) % (keysB read).length := ⟨_, rfl⟩
    have hjl : j < (keysB read).length := by rw [hj]; exact Nat.mod_lt _ hkp
    obtain ⟨k, hk⟩ : ∃ k, k = (keysB read).getD j emp := ⟨_, rfl⟩
    have hkr : readKey read turn i = k := by rw [readKey, ← hj, hk]
    have hks : k.size = 1 := by obtain ⟨z, _, hz⟩ := keysB_mem (show k ∈ keysB read by rw [hk]; exact getD_mem emp hjl); rw [hz]; exact keyB_size z
    refine pk_seq ?_
    refine pk_block ?_
    refine pk_seq ?_
    refine pk_region ?_
    refine Pk.tells ((Ent.own 2 rfl).some_of (by rw [List.length_map]; omega)) fun hq17 => ?_
    refine pk_val rfl rfl rfl (val_move rfl rfl) ?_
    refine pk_val rfl rfl rfl (val_move rfl rfl) ?_
    refine pk_val rfl rfl rfl (val_move rfl rfl) ?_
    refine pk_val rfl rfl rfl (val_move rfl rfl) ?_
    refine pk_val rfl rfl rfl (val_len_slice rfl Try.underlying34 rfl) ?_
    refine pk_val rfl rfl rfl (val_sub rfl rfl rfl (by omega)) ?_
    refine Pk.slot 29 (v := .int .i64 (((keysB read).length - 1 : Nat) : Int)) rfl (by congr 1; omega) ?_
    refine pk_eff (eff_call1 rfl ⟨_, Try.func26, by kernel_rfl, rfl⟩ rfl (fun E w s => law17_rest_c (m := (keysB read).length - 1) s (by omega))) rfl rfl rfl (fun _ _ => ?_)
    refine pk_val rfl rfl rfl (val_add rfl rfl rfl (by omega)) ?_
    refine pk_val rfl rfl rfl (val_move rfl rfl) ?_
    refine pk_val rfl rfl rfl (val_len_slice rfl Try.underlying34 rfl) ?_
    refine pk_val rfl rfl rfl (val_rem rfl rfl rfl (by omega) (by omega)) ?_
    refine pk_val rfl rfl rfl (val_indexAddr rfl Try.underlying34 1 (by kernel_rfl) rfl rfl j (by rw [hj, Int.natCast_emod, Int.natCast_add]) hjl (Ent.pure hq17)) ?_
    refine pk_val rfl rfl rfl (val_load rfl Try.underlying9 rfl rfl ((Ent.own 2 rfl).rd (get_map emp hjl))) ?_
    refine pk_val rfl rfl rfl (val_assign rfl rfl) ?_
    refine pk_nil ?_
    refine thru_on ?_
    refine pk_seq ?_
    refine pk_region ?_
    refine pk_val rfl rfl rfl (val_assign rfl rfl) ?_
    refine pk_nil ?_
    refine thru_on ?_
    refine pk_seq ?_
    refine pk_region ?_
    refine Pk.nilrow 36 4 ?_
    refine pk_val rfl rfl rfl (val_move rfl rfl) ?_
    refine pk_val rfl rfl rfl (val_move rfl rfl) ?_
    refine pk_val rfl rfl rfl (val_build (z := [.string ⟨#[]⟩, .int .u64 0, .string ⟨#[]⟩, .slice none 0 0]) [(0, 1), (1, 1), (2, 1), (3, 1)] rfl Try.underlying36 (by kernel_rfl) (by kernel_rfl) rfl rfl rfl) ?_
    refine pk_eff (eff_buildSlice (len := 1) (sz := 4) (z := #[.string ⟨#[]⟩, .int .u64 0, .string ⟨#[]⟩, .slice none 0 0]) rfl Try.underlying23 (by kernel_rfl) rfl rfl rfl (by decide) (by decide) rfl rfl) rfl rfl rfl (fun b40 _ => ?_)
    refine pk_eff (eff_append1 (sz := 4) (bytes := 64) (z := .agg #[.string ⟨#[]⟩, .int .u64 0, .string ⟨#[]⟩, .slice none 0 0]) 1 rfl Try.underlying23 (by kernel_rfl) rfl (by decide) (by decide) rfl rfl rfl (Ent.own 0 rfl) (by first | rfl | (simp; done) | exact flat_length (s := 4) (fun _ => rfl) _) (by first | rfl | (simp; done)) rfl (by omega)) rfl rfl rfl (fun q41 _ => ?_)
    refine pk_val rfl rfl rfl (val_assign rfl rfl) ?_
    refine pk_nil ?_
    refine thru_on ?_
    refine pk_seq ?_
    refine pk_seq ?_
    refine pk_region ?_
    refine pk_val rfl rfl rfl (val_assign rfl rfl) ?_
    refine pk_nil ?_
    refine thru_on ?_
    refine pk_block ?_
    refine pk_loop (α := Nat × Option Addr × Nat × List Ver) ((0, q41.1, q41.2, [⟨botAv k, none, 0⟩])) (fun y => [(0, .slice M masks.length c), (2, .int .i64 turn), (3, .slice K picks.length d), (9, .slice q17.1 (keysB read).length q17.2), (10, .slice q outs.length e), (11, .int .i64 (i : Nat)), (12, .string k), (13, .slice y.2.1 y.2.2.2.length y.2.2.1), (14, .int .i64 (y.1 : Nat))]) (fun y => (own y.2.1 (y.2.2.2).length y.2.2.1 36 4 ((y.2.2.2).flatMap Ver.cells)) :: (cat (y.2.2.2.map keysCh)) :: (own q (outs).length e 36 4 ((outs).flatMap Ver.cells)) :: (cat (outs.map keysCh)) :: (own q17.1 (keysB read).length q17.2 9 1 ((keysB read).map .string)) :: L) (fun y => y.1 ≤ masks.length ∧ avs y.2.2.2 = someK masks k y.1) (fun y => masks.length - y.1) ?_ ?_ ?_ ?_
    · (try dsimp only); exact ⟨Nat.zero_le _, rfl⟩
    · exact ⟨(Sub.cons rfl (by first | rfl | (congr 1; omega) | simp) (Sub.cons rfl (by first | rfl | (congr 1; omega) | simp) (Sub.cons rfl (by first | rfl | (congr 1; omega) | simp) (Sub.cons rfl (by first | rfl | (congr 1; omega) | simp) (Sub.cons rfl (by first | rfl | (congr 1; omega) | simp) (Sub.cons rfl (by first | rfl | (congr 1; omega) | simp) (Sub.cons rfl (by rw [hk]) (Sub.cons rfl (by first | rfl | (congr 1; omega) | simp) (Sub.cons rfl (by first | rfl | (congr 1; omega) | simp) (Sub.nil _)))))))))), rfl⟩
    · exact (fun _ h => Sats.swap (Sats.cat_snoc (f := keysCh) (l := []) (y := ⟨botAv k, none, 0⟩) (Sats.nilrow (Sats.cat_nil (by rw [hk]; exact Sats.keep [false, true, true, true, true] h)))))
    rintro ⟨v, q2, e2, sms⟩ ⟨hv0, hS⟩
    dsimp only at hv0 hS ⊢
    have hsl : sms.length = (someK masks k v).length := by rw [← hS, avs_len]
    have hsb := someK_len masks k v
    refine pk_seq ?_
    refine pk_seq ?_
    refine pk_region ?_
    refine pk_val rfl rfl rfl (val_move rfl rfl) ?_
    refine pk_val rfl rfl rfl (val_move rfl rfl) ?_
    refine pk_val rfl rfl rfl (val_len_slice rfl Try.underlying22 rfl) ?_
    refine pk_val rfl rfl rfl (val_lss rfl rfl rfl) ?_
    refine pk_nil ?_
    refine thru_on ?_
    refine pk_if rfl (fun h2 => ?_) (fun h2 => ?_)
    · skip
      refine pk_skip ?_
      refine thru_on ?_
      have hv : v < masks.length := by omega
      refine Pk.tells (hM.cons.cons.cons.cons.cons.some_of (by rw [List.length_map]; omega)) fun hA => ?_
      refine pk_seq ?_
      refine pk_block ?_
      refine pk_seq ?_
      refine pk_region ?_
      refine pk_val rfl rfl rfl (val_move rfl rfl) ?_
      refine pk_val rfl rfl rfl (val_move rfl rfl) ?_
      refine pk_val rfl rfl rfl (val_indexAddr rfl Try.underlying22 1 (by kernel_rfl) rfl rfl v rfl hv (Ent.pure hA)) ?_
      refine pk_val rfl rfl rfl (val_load rfl Try.underlying3 rfl rfl (hM.cons.cons.cons.cons.cons.rd (get_map 0 hv))) ?_
      refine pk_eff (eff_callx rfl ⟨_, Try.func25, by kernel_rfl, rfl⟩ rfl (fun E w s => law17_keys_c s)) rfl rfl rfl (fun q52 _ => ?_)
      refine pk_val rfl rfl rfl (val_move rfl rfl) ?_
      refine pk_eff (eff_call1 rfl ⟨_, Try.func27, by kernel_rfl, rfl⟩ rfl (fun E w s => law17_has_c s (Ent.own 0 rfl) (by have := keysB_len (masks.getD v 0); omega))) rfl rfl rfl (fun _ _ => ?_)
      refine pk_nil ?_
      refine thru_on ?_
      refine pk_ifb rfl (fun h3 => ?_) (fun h3 => ?_)
      · skip
        refine pk_region ?_
        refine pk_val rfl rfl rfl (val_move rfl rfl) ?_
        refine pk_val rfl rfl rfl (val_move rfl rfl) ?_
        refine pk_val rfl rfl rfl (val_move rfl rfl) ?_
        refine pk_val rfl rfl rfl (val_move rfl rfl) ?_
        refine pk_eff (eff_callx rfl ⟨_, Try.func9, by kernel_rfl, rfl⟩ rfl (fun E w s => law17_made_c s hM.cons.cons.cons.cons.cons.cons hv (by omega) (by omega))) rfl rfl rfl (fun q59 _ => ?_)
        refine pk_eff (eff_buildSlice (len := 1) (sz := 4) (z := #[.string ⟨#[]⟩, .int .u64 0, .string ⟨#[]⟩, .slice none 0 0]) rfl Try.underlying23 (by kernel_rfl) rfl rfl rfl (by decide) (by decide) rfl rfl) rfl rfl rfl (fun b60 _ => ?_)
        refine pk_eff (eff_append1 (sz := 4) (bytes := 64) (z := .agg #[.string ⟨#[]⟩, .int .u64 0, .string ⟨#[]⟩, .slice none 0 0]) 3 rfl Try.underlying23 (by kernel_rfl) rfl (by decide) (by decide) rfl rfl rfl (Ent.own 0 rfl) (by first | rfl | (simp; done) | exact flat_length (s := 4) (fun _ => rfl) _) (by first | rfl | (simp; done)) rfl (by omega)) rfl rfl rfl (fun q61 _ => ?_)
        refine pk_val rfl rfl rfl (val_assign rfl rfl) ?_
        refine pk_nil ?_
        refine in_on ?_
        refine thru_on ?_
        refine pk_region ?_
        refine pk_val rfl rfl rfl (val_move rfl rfl) ?_
        refine pk_val rfl rfl rfl (val_add rfl rfl rfl (by omega)) ?_
        refine pk_val rfl rfl rfl (val_assign rfl rfl) ?_
        refine pk_nil ?_
        refine thru_on ?_
        refine pk_next (x := ⟨v, q2, e2, sms⟩) ((v + 1, q61.1, q61.2, sms ++ [⟨madeAv masks v k, q59.1, q59.2⟩])) ?_ ?_ ?_ ?_
        · (try dsimp only) <;> exact ⟨hv, by (try dsimp only); rw [avs_snoc, someK_succ, if_pos h3, hS]⟩
        · (try dsimp only); exact (by omega)
        · exact ⟨(Sub.cons rfl (by first | rfl | (congr 1; omega) | simp) (Sub.cons rfl (by first | rfl | (congr 1; omega) | simp) (Sub.cons rfl (by first | rfl | (congr 1; omega) | simp) (Sub.cons rfl (by first | rfl | (congr 1; omega) | simp) (Sub.cons rfl (by first | rfl | (congr 1; omega) | simp) (Sub.cons rfl (by first | rfl | (congr 1; omega) | simp) (Sub.cons rfl (by first | rfl | (congr 1; omega) | simp) (Sub.cons rfl (by simp) (Sub.cons rfl (by first | rfl | (congr 1; omega) | simp) (Sub.nil _)))))))))), rfl⟩
        · exact (fun _ h => by
            (try dsimp only)
            rw [List.flatMap_append, List.length_append]
            exact Sats.swap (Sats.cat_snoc (f := keysCh) (y := ⟨madeAv masks v k, q59.1, q59.2⟩) (Sats.swap (Sats.pull 2 rfl (Sats.keep [false, true, false, true, true, true, true, true] h)))))
      · skip
        refine pk_skip ?_
        refine in_on ?_
        refine thru_on ?_
        refine pk_region ?_
        refine pk_val rfl rfl rfl (val_move rfl rfl) ?_
        refine pk_val rfl rfl rfl (val_add rfl rfl rfl (by omega)) ?_
        refine pk_val rfl rfl rfl (val_assign rfl rfl) ?_
        refine pk_nil ?_
        refine thru_on ?_
        refine pk_next (x := ⟨v, q2, e2, sms⟩) ((v + 1, q2, e2, sms)) ?_ ?_ ?_ ?_
        · (try dsimp only) <;> exact ⟨hv, by (try dsimp only); rw [someK_succ, if_neg (by rw [h3]; decide), hS, List.append_nil]⟩
        · (try dsimp only); exact (by omega)
        · exact ⟨(Sub.cons rfl (by first | rfl | (congr 1; omega) | simp) (Sub.cons rfl (by first | rfl | (congr 1; omega) | simp) (Sub.cons rfl (by first | rfl | (congr 1; omega) | simp) (Sub.cons rfl (by first | rfl | (congr 1; omega) | simp) (Sub.cons rfl (by first | rfl | (congr 1; omega) | simp) (Sub.cons rfl (by first | rfl | (congr 1; omega) | simp) (Sub.cons rfl (by first | rfl | (congr 1; omega) | simp) (Sub.cons rfl (by first | rfl | (congr 1; omega) | simp) (Sub.cons rfl (by first | rfl | (congr 1; omega) | simp) (Sub.nil _)))))))))), rfl⟩
        · exact (fun _ h => h.tail)
    · skip
      have hvv : v = masks.length := by omega
      subst hvv
      obtain ⟨r, hr⟩ : ∃ r, r = restN (pickN picks i) (sms.length - 1) := ⟨_, rfl⟩
      have hsp : 0 < sms.length := by rw [hsl]; simp [someK]
      have hrr : r < sms.length := by have := restN_le (pickN picks i) (sms.length - 1); omega
      have hpk : pickB masks read turn picks i = (sms.getD r dV).a := by rw [pickB, hkr, ← hsl, ← hr, ← hS, avs_getD hrr]
      refine pk_exit ?_
      refine thru ?_
      refine thru ?_
      refine pk_here ?_
      refine thru_on ?_
      refine pk_seq ?_
      refine pk_region ?_
      refine pk_val rfl rfl rfl (val_assign rfl rfl) ?_
      refine pk_nil ?_
      refine thru_on ?_
      refine pk_cut (α := Unit) (fun y => [(0, .slice M masks.length c), (2, .int .i64 turn), (3, .slice K picks.length d), (9, .slice q17.1 (keysB read).length q17.2), (10, .slice q outs.length e), (11, .int .i64 (i : Nat)), (13, .slice q2 sms.length e2), (15, .int .i64 (pickN picks i))]) (fun y => (own q2 (sms).length e2 36 4 ((sms).flatMap Ver.cells)) :: (cat (sms.map keysCh)) :: (own q (outs).length e 36 4 ((outs).flatMap Ver.cells)) :: (cat (outs.map keysCh)) :: (own q17.1 (keysB read).length q17.2 9 1 ((keysB read).map .string)) :: L) (fun y => True) ?_ ?_
      · skip
        refine pk_seq ?_
        refine pk_region ?_
        refine pk_val rfl rfl rfl (val_move rfl rfl) ?_
        refine pk_val rfl rfl rfl (val_move rfl rfl) ?_
        refine pk_val rfl rfl rfl (val_len_slice rfl Try.underlying22 rfl) ?_
        refine pk_val rfl rfl rfl (val_lss rfl rfl rfl) ?_
        refine pk_nil ?_
        refine thru_on ?_
        refine pk_if rfl (fun h4 => ?_) (fun h4 => ?_)
        · skip
          have hpi : i < picks.length := by omega
          refine Pk.tells (hK.cons.cons.cons.cons.cons.some_of (by rw [List.length_map]; omega)) fun hA => ?_
          refine pk_region ?_
          refine pk_val rfl rfl rfl (val_move rfl rfl) ?_
          refine pk_val rfl rfl rfl (val_move rfl rfl) ?_
          refine pk_val rfl rfl rfl (val_indexAddr rfl Try.underlying22 1 (by kernel_rfl) rfl rfl i rfl hpi (Ent.pure hA)) ?_
          refine pk_val rfl rfl rfl (val_load rfl Try.underlying3 rfl rfl (hK.cons.cons.cons.cons.cons.rd (get_map 0 hpi))) ?_
          refine pk_val rfl rfl rfl (val_assign rfl rfl) ?_
          refine pk_nil ?_
          refine thru_on ?_
          refine pk_fin (()) ?_ ?_ ?_
          · (try dsimp only) <;> exact trivial
          · exact ⟨(Sub.cons rfl (by first | rfl | (congr 1; omega) | simp) (Sub.cons rfl (by first | rfl | (congr 1; omega) | simp) (Sub.cons rfl (by first | rfl | (congr 1; omega) | simp) (Sub.cons rfl (by first | rfl | (congr 1; omega) | simp) (Sub.cons rfl (by first | rfl | (congr 1; omega) | simp) (Sub.cons rfl (by first | rfl | (congr 1; omega) | simp) (Sub.cons rfl (by first | rfl | (congr 1; omega) | simp) (Sub.cons rfl (by simp only [pickN, if_pos hpi]) (Sub.nil _))))))))), rfl⟩
          · exact (fun _ h => h)
        · skip
          refine pk_skip ?_
          refine thru_on ?_
          refine pk_fin (()) ?_ ?_ ?_
          · (try dsimp only) <;> exact trivial
          · exact ⟨(Sub.cons rfl (by first | rfl | (congr 1; omega) | simp) (Sub.cons rfl (by first | rfl | (congr 1; omega) | simp) (Sub.cons rfl (by first | rfl | (congr 1; omega) | simp) (Sub.cons rfl (by first | rfl | (congr 1; omega) | simp) (Sub.cons rfl (by first | rfl | (congr 1; omega) | simp) (Sub.cons rfl (by first | rfl | (congr 1; omega) | simp) (Sub.cons rfl (by first | rfl | (congr 1; omega) | simp) (Sub.cons rfl (by simp only [pickN]; rw [if_neg (by omega)]) (Sub.nil _))))))))), rfl⟩
          · exact (fun _ h => h)
      rintro _ _
      refine pk_region ?_
      refine Pk.tells ((Ent.own 0 rfl).some_of (by rw [flat_length Ver.cells_len]; omega)) fun hq2 => ?_
      refine pk_val rfl rfl rfl (val_move rfl rfl) ?_
      refine pk_val rfl rfl rfl (val_move rfl rfl) ?_
      refine pk_val rfl rfl rfl (val_move rfl rfl) ?_
      refine pk_val rfl rfl rfl (val_move rfl rfl) ?_
      refine pk_val rfl rfl rfl (val_len_slice rfl Try.underlying23 rfl) ?_
      refine pk_val rfl rfl rfl (val_sub rfl rfl rfl (by omega)) ?_
      refine Pk.slot 75 (v := .int .i64 ((sms.length - 1 : Nat) : Int)) rfl (by congr 1; omega) ?_
      refine pk_eff (eff_call1 rfl ⟨_, Try.func26, by kernel_rfl, rfl⟩ rfl (fun E w s => law17_rest_c (m := sms.length - 1) s (by omega))) rfl rfl rfl (fun _ _ => ?_)
      refine pk_val rfl rfl rfl (val_indexAddr rfl Try.underlying23 4 (by kernel_rfl) rfl rfl r (by rw [hr]) hrr (Ent.pure hq2)) ?_
      refine pk_val rfl rfl rfl (val_loads (vs := (sms.getD r dV).cells) rfl Try.underlying36 rfl (by kernel_rfl) rfl (Ent.pure hq2) ((Ent.own 0 rfl).rds (flat_rds Ver.cells_len dV hrr))) ?_
      refine pk_eff (eff_buildSlice (len := 1) (sz := 4) (z := #[.string ⟨#[]⟩, .int .u64 0, .string ⟨#[]⟩, .slice none 0 0]) rfl Try.underlying23 (by kernel_rfl) rfl rfl rfl (by decide) (by decide) rfl rfl) rfl rfl rfl (fun b79 _ => ?_)
      refine pk_eff (eff_append1 (sz := 4) (bytes := 64) (z := .agg #[.string ⟨#[]⟩, .int .u64 0, .string ⟨#[]⟩, .slice none 0 0]) 3 rfl Try.underlying23 (by kernel_rfl) rfl (by decide) (by decide) rfl rfl rfl (Ent.own 0 rfl) (by first | rfl | (simp; done) | exact flat_length (s := 4) (fun _ => rfl) _) (by first | rfl | (simp; done)) rfl (by omega)) rfl rfl rfl (fun q80 _ => ?_)
      refine pk_val rfl rfl rfl (val_assign rfl rfl) ?_
      refine pk_nil ?_
      refine in_on ?_
      refine thru_on ?_
      refine pk_region ?_
      refine pk_val rfl rfl rfl (val_move rfl rfl) ?_
      refine pk_val rfl rfl rfl (val_add rfl rfl rfl (by omega)) ?_
      refine pk_val rfl rfl rfl (val_assign rfl rfl) ?_
      refine pk_nil ?_
      refine thru_on ?_
      refine pk_next (x := ⟨i, q, e, outs⟩) ((i + 1, q80.1, q80.2, outs ++ [sms.getD r dV])) ?_ ?_ ?_ ?_
      · (try dsimp only) <;> exact ⟨hi, by (try dsimp only); rw [avs_snoc, hI, broughtK_succ, hpk]⟩
      · (try dsimp only); exact (by omega)
      · exact ⟨(Sub.cons rfl (by first | rfl | (congr 1; omega) | simp) (Sub.cons rfl (by first | rfl | (congr 1; omega) | simp) (Sub.cons rfl (by first | rfl | (congr 1; omega) | simp) (Sub.cons rfl (by first | rfl | (congr 1; omega) | simp) (Sub.cons rfl (by simp) (Sub.cons rfl (by first | rfl | (congr 1; omega) | simp) (Sub.nil _))))))), rfl⟩
      · exact (fun _ h => by
          (try dsimp only)
          rw [List.flatMap_append, List.length_append]
          have h1 := Sats.cat_pull (f := keysCh) r (x := sms.getD r dV) (by simp [hrr]) (Sats.keep [false, false, true, true, true, true] h)
          exact Sats.swap (Sats.cat_snoc (f := keysCh) (Sats.swap (Sats.pull 2 rfl (Sats.keep [true, false, true, true, true] h1)))))
  · skip
    refine pk_exit ?_
    refine thru ?_
    refine thru ?_
    refine pk_here ?_
    refine thru_on ?_
    refine pk_seq ?_
    refine pk_region ?_
    refine pk_val rfl rfl rfl (val_move rfl rfl) ?_
    refine pk_val rfl rfl rfl (val_assign rfl rfl) ?_
    refine pk_nil ?_
    refine thru_on ?_
    refine pk_ret ?_
    have hii : i = (keysB read).length := by omega
    subst hii
    refine ret1 rfl rfl fun w s => ⟨(q, e, outs), hI, rfl, s.to (fun _ h => Sats.keep [true, true, false] h)⟩
theorem avs_ne {vs ws : List Ver} {k : Nat} (h1 : k < vs.length) (h2 : k < ws.length) (h : (vs.getD k dV).a ≠ (ws.getD k dV).a) : decide (avs vs = avs ws) = false := by
  refine decide_eq_false fun e => h ?_
  rw [← avs_getD h1, ← avs_getD h2, e]
theorem avs_eq_of {vs ws : List Ver} (hl : vs.length = ws.length) (h : ∀ j, j < vs.length → (vs.getD j dV).a = (ws.getD j dV).a) : decide (avs vs = avs ws) = true := by
  refine decide_eq_true (List.ext_getElem (by simp [avs, hl]) fun i h1 h2 => ?_)
  have h1' : i < vs.length := by simpa [avs] using h1
  have h2' : i < ws.length := by simpa [avs] using h2
  have := h i h1'
  simpa [avs, h1', h2'] using this
theorem av_ext {a b : Av} (h1 : a.key = b.key) (h2 : a.id = b.id) (h3 : a.val = b.val) (h4 : a.keys = b.keys) : a = b := by cases a; cases b; simp_all
theorem law17_same_c {E w : World} {L : List Ch} {A B : Option Addr} {c d : Nat} {vs ws : List Ver} (s : Sat E w L) (hV : VerIn L A vs) (hW : VerIn L B ws) :
    Calls Try.prog 11 #[.slice A vs.length c, .slice B ws.length d] w (Gives E (.bool (decide (avs vs = avs ws))) L) := by
  refine enter (vs := [_, _]) Try.func11 rfl Try.ntmps11 rfl s ?_
  refine pk_seq ?_
  refine pk_region ?_
  refine pk_val rfl rfl rfl (val_assign rfl rfl) ?_
  refine pk_nil ?_
  refine thru_on ?_
  refine pk_seq ?_
  refine pk_seq ?_
  refine pk_region ?_
  refine pk_val rfl rfl rfl (val_move rfl rfl) ?_
  refine pk_val rfl rfl rfl (val_len_slice rfl Try.underlying23 rfl) ?_
  refine pk_val rfl rfl rfl (val_move rfl rfl) ?_
  refine pk_val rfl rfl rfl (val_len_slice rfl Try.underlying23 rfl) ?_
  refine pk_val rfl rfl rfl (val_neq rfl rfl rfl) ?_
  refine pk_nil ?_
  refine thru_on ?_
  refine pk_if rfl (fun h => ?_) (fun h => ?_)
  · skip
    refine pk_seq ?_
    refine pk_region ?_
    refine pk_val rfl rfl rfl (val_assign rfl rfl) ?_
    refine pk_nil ?_
    refine thru_on ?_
    refine pk_ret ?_
    refine thru_ret ?_
    refine ret1 rfl rfl fun w s => ⟨?_, s⟩
    have e : decide (avs vs = avs ws) = false := decide_eq_false fun e => by
      have := congrArg List.length e
      rw [avs_len, avs_len] at this
      omega
    rw [e]
  · skip
    refine pk_skip ?_
    refine thru_on ?_
    have hlen : vs.length = ws.length := by omega
    have hvl := hV.len
    refine pk_seq ?_
    refine pk_seq ?_
    refine pk_region ?_
    refine pk_val rfl rfl rfl (val_assign rfl rfl) ?_
    refine pk_nil ?_
    refine thru_on ?_
    refine pk_block ?_
    refine pk_loop (α := Nat) (0) (fun k => [(0, .slice A vs.length c), (1, .slice B ws.length d), (5, .int .i64 (k : Nat))]) (fun k => L) (fun k => k ≤ vs.length ∧ ∀ j, j < k → (vs.getD j dV).a = (ws.getD j dV).a) (fun k => vs.length - k) ?_ ?_ ?_ ?_
    · (try dsimp only); exact ⟨Nat.zero_le _, fun j h => by omega⟩
    · exact ⟨(Sub.cons rfl (by first | rfl | (congr 1; omega) | simp) (Sub.cons rfl (by first | rfl | (congr 1; omega) | simp) (Sub.cons rfl (by first | rfl | (congr 1; omega) | simp) (Sub.nil _)))), rfl⟩
    · exact (fun _ h => h)
    rintro k ⟨hk0, hI⟩
    refine pk_seq ?_
    refine pk_seq ?_
    refine pk_region ?_
    refine pk_val rfl rfl rfl (val_move rfl rfl) ?_
    refine pk_val rfl rfl rfl (val_move rfl rfl) ?_
    refine pk_val rfl rfl rfl (val_len_slice rfl Try.underlying23 rfl) ?_
    refine pk_val rfl rfl rfl (val_lss rfl rfl rfl) ?_
    refine pk_nil ?_
    refine thru_on ?_
    refine pk_if rfl (fun h1 => ?_) (fun h1 => ?_)
    · skip
      refine pk_skip ?_
      refine thru_on ?_
      have hk : k < vs.length := by omega
      have hk2 : k < ws.length := by omega
      refine Pk.tells (hV.rows.some_of (by rw [flat_length Ver.cells_len]; omega)) fun hA => ?_
      refine Pk.tells (hW.rows.some_of (by rw [flat_length Ver.cells_len]; omega)) fun hB => ?_
      refine pk_seq ?_
      refine pk_block ?_
      refine pk_seq ?_
      refine pk_drawk (.val 0 (.val 1 (.val 2 (.val 3 (.val 4 (.val 5 (.val 6 (.val 7 (.val 8 (.val 9 (.val 10 (.val 11 (.val 12 (.val 13 (.val 14 (.val 15 (.val 16 (.val 17 (.val 18 (.val 19 (.val 20 (.val 21 (.val 22 (.val 23 (.val 24 (.val 25 (.val 26 (.val 27 (.val 28 (.val 29 (.val 30 (.val 31 (.val 32 (.val 33 (.val 34 (.val 35 (.val 36 (.val 37 (.val 38 (.val 39 (.val 40 (.val 41 (.val 42 (.val 43 (.val 44 (.val 45 (.val 46 (.val 47 (.eff 48 (.val 49 (.val 50 .nil))))))))))))))))))))))))))))))))))))))))))))))))))) 1051 [] rfl (by kernel_rfl) (fun _ _ _ _ _ h => h) ?_
      refine ord_val rfl rfl rfl rfl (fun _ h => h) (val_move rfl rfl) ?_
      refine ord_val rfl rfl rfl rfl (fun _ h => h) (val_move rfl rfl) ?_
      refine ord_val rfl rfl rfl rfl (fun _ h => h) (val_indexAddr rfl Try.underlying23 4 (by kernel_rfl) rfl rfl k rfl hk (Ent.pure hA)) ?_
      refine ord_val rfl rfl rfl rfl (fun _ h => h) (val_fieldAddr rfl Try.underlying36 0 1 (by kernel_rfl) (by decide) rfl (Ent.pure (by first | rfl | assumption))) ?_
      refine ord_val rfl rfl rfl rfl (fun _ h => h) (val_load rfl Try.underlying9 rfl rfl ((hV.rows.rd ((get_flat Ver.cells_len dV hk (by decide)).trans rfl)))) ?_
      refine ord_val rfl rfl rfl rfl (fun _ h => h) (val_move rfl rfl) ?_
      refine ord_val rfl rfl rfl rfl (fun _ h => h) (val_move rfl rfl) ?_
      refine ord_val rfl rfl rfl rfl (fun _ h => h) (val_indexAddr rfl Try.underlying23 4 (by kernel_rfl) rfl rfl k rfl hk2 (Ent.pure hB)) ?_
      refine ord_val rfl rfl rfl rfl (fun _ h => h) (val_fieldAddr rfl Try.underlying36 0 1 (by kernel_rfl) (by decide) rfl (Ent.pure (by first | rfl | assumption))) ?_
      refine ord_val rfl rfl rfl rfl (fun _ h => h) (val_load rfl Try.underlying9 rfl rfl ((hW.rows.rd ((get_flat Ver.cells_len dV hk2 (by decide)).trans rfl)))) ?_
      refine ord_val rfl rfl rfl rfl (fun _ h => h) (val_str_neq rfl rfl rfl) ?_
      refine ord_val rfl rfl rfl rfl (fun _ h => h) (val_move rfl rfl) ?_
      by_cases h2 : (vs.getD k dV).a.key = (ws.getD k dV).a.key
      · skip
        refine Pk.slot 28 (v := .bool false) rfl (congrArg Value.bool (decide_eq_false (fun h => h h2))) ?_
        refine ord_val_yes rfl rfl rfl rfl rfl rfl (fun _ h => h) (val_move rfl rfl) ?_
        refine ord_val_yes rfl rfl rfl rfl rfl rfl (fun _ h => h) (val_move rfl rfl) ?_
        refine ord_val_yes rfl rfl rfl rfl rfl rfl (fun _ h => h) (val_indexAddr rfl Try.underlying23 4 (by kernel_rfl) rfl rfl k rfl hk (Ent.pure hA)) ?_
        refine ord_val_yes rfl rfl rfl rfl rfl rfl (fun _ h => h) (val_fieldAddr rfl Try.underlying36 1 1 (by kernel_rfl) (by decide) rfl (Ent.pure (by first | rfl | assumption))) ?_
        refine ord_val_yes rfl rfl rfl rfl rfl rfl (fun _ h => h) (val_load rfl Try.underlying31 rfl rfl ((hV.rows.rd ((get_flat Ver.cells_len dV hk (by decide)).trans rfl)))) ?_
        refine ord_val_yes rfl rfl rfl rfl rfl rfl (fun _ h => h) (val_move rfl rfl) ?_
        refine ord_val_yes rfl rfl rfl rfl rfl rfl (fun _ h => h) (val_move rfl rfl) ?_
        refine ord_val_yes rfl rfl rfl rfl rfl rfl (fun _ h => h) (val_indexAddr rfl Try.underlying23 4 (by kernel_rfl) rfl rfl k rfl hk2 (Ent.pure hB)) ?_
        refine ord_val_yes rfl rfl rfl rfl rfl rfl (fun _ h => h) (val_fieldAddr rfl Try.underlying36 1 1 (by kernel_rfl) (by decide) rfl (Ent.pure (by first | rfl | assumption))) ?_
        refine ord_val_yes rfl rfl rfl rfl rfl rfl (fun _ h => h) (val_load rfl Try.underlying31 rfl rfl ((hW.rows.rd ((get_flat Ver.cells_len dV hk2 (by decide)).trans rfl)))) ?_
        refine ord_val_yes rfl rfl rfl rfl rfl rfl (fun _ h => h) (val_neq rfl rfl rfl) ?_
        refine ord_val rfl rfl rfl rfl (fun _ h => h) (val_pick rfl rfl rfl rfl) ?_
        refine ord_val rfl rfl rfl rfl (fun _ h => h) (val_move rfl rfl) ?_
        by_cases h3 : (vs.getD k dV).a.id = (ws.getD k dV).a.id
        · skip
          refine Pk.slot 41 (v := .bool false) rfl (congrArg Value.bool (decide_eq_false (fun h => h h3))) ?_
          refine ord_val_yes rfl rfl rfl rfl rfl rfl (fun _ h => h) (val_move rfl rfl) ?_
          refine ord_val_yes rfl rfl rfl rfl rfl rfl (fun _ h => h) (val_move rfl rfl) ?_
          refine ord_val_yes rfl rfl rfl rfl rfl rfl (fun _ h => h) (val_indexAddr rfl Try.underlying23 4 (by kernel_rfl) rfl rfl k rfl hk (Ent.pure hA)) ?_
          refine ord_val_yes rfl rfl rfl rfl rfl rfl (fun _ h => h) (val_fieldAddr rfl Try.underlying36 2 1 (by kernel_rfl) (by decide) rfl (Ent.pure (by first | rfl | assumption))) ?_
          refine ord_val_yes rfl rfl rfl rfl rfl rfl (fun _ h => h) (val_load rfl Try.underlying9 rfl rfl ((hV.rows.rd ((get_flat Ver.cells_len dV hk (by decide)).trans rfl)))) ?_
          refine ord_val_yes rfl rfl rfl rfl rfl rfl (fun _ h => h) (val_move rfl rfl) ?_
          refine ord_val_yes rfl rfl rfl rfl rfl rfl (fun _ h => h) (val_move rfl rfl) ?_
          refine ord_val_yes rfl rfl rfl rfl rfl rfl (fun _ h => h) (val_indexAddr rfl Try.underlying23 4 (by kernel_rfl) rfl rfl k rfl hk2 (Ent.pure hB)) ?_
          refine ord_val_yes rfl rfl rfl rfl rfl rfl (fun _ h => h) (val_fieldAddr rfl Try.underlying36 2 1 (by kernel_rfl) (by decide) rfl (Ent.pure (by first | rfl | assumption))) ?_
          refine ord_val_yes rfl rfl rfl rfl rfl rfl (fun _ h => h) (val_load rfl Try.underlying9 rfl rfl ((hW.rows.rd ((get_flat Ver.cells_len dV hk2 (by decide)).trans rfl)))) ?_
          refine ord_val_yes rfl rfl rfl rfl rfl rfl (fun _ h => h) (val_str_neq rfl rfl rfl) ?_
          refine ord_val rfl rfl rfl rfl (fun _ h => h) (val_pick rfl rfl rfl rfl) ?_
          refine ord_val rfl rfl rfl rfl (fun _ h => h) (val_move rfl rfl) ?_
          by_cases h4 : (vs.getD k dV).a.val = (ws.getD k dV).a.val
          · skip
            refine Pk.slot 54 (v := .bool false) rfl (congrArg Value.bool (decide_eq_false (fun h => h h4))) ?_
            refine ord_val_yes rfl rfl rfl rfl rfl rfl (fun _ h => h) (val_move rfl rfl) ?_
            refine ord_val_yes rfl rfl rfl rfl rfl rfl (fun _ h => h) (val_move rfl rfl) ?_
            refine ord_val_yes rfl rfl rfl rfl rfl rfl (fun _ h => h) (val_indexAddr rfl Try.underlying23 4 (by kernel_rfl) rfl rfl k rfl hk (Ent.pure hA)) ?_
            refine ord_val_yes rfl rfl rfl rfl rfl rfl (fun _ h => h) (val_fieldAddr rfl Try.underlying36 3 1 (by kernel_rfl) (by decide) rfl (Ent.pure (by first | rfl | assumption))) ?_
            refine ord_val_yes rfl rfl rfl rfl rfl rfl (fun _ h => h) (val_load rfl Try.underlying34 rfl rfl ((hV.rows.rd ((get_flat Ver.cells_len dV hk (by decide)).trans rfl)))) ?_
            refine ord_val_yes rfl rfl rfl rfl rfl rfl (fun _ h => h) (val_move rfl rfl) ?_
            refine ord_val_yes rfl rfl rfl rfl rfl rfl (fun _ h => h) (val_move rfl rfl) ?_
            refine ord_val_yes rfl rfl rfl rfl rfl rfl (fun _ h => h) (val_indexAddr rfl Try.underlying23 4 (by kernel_rfl) rfl rfl k rfl hk2 (Ent.pure hB)) ?_
            refine ord_val_yes rfl rfl rfl rfl rfl rfl (fun _ h => h) (val_fieldAddr rfl Try.underlying36 3 1 (by kernel_rfl) (by decide) rfl (Ent.pure (by first | rfl | assumption))) ?_
            refine ord_val_yes rfl rfl rfl rfl rfl rfl (fun _ h => h) (val_load rfl Try.underlying34 rfl rfl ((hW.rows.rd ((get_flat Ver.cells_len dV hk2 (by decide)).trans rfl)))) ?_
            refine ord_eff_yes (eff_call1 rfl ⟨_, Try.func34, by kernel_rfl, rfl⟩ rfl (fun E w s => law17_sameTexts_c s (hV.keys _ (getD_mem dV hk)) (hW.keys _ (getD_mem dV hk2)) (hV.klen _ (getD_mem dV hk)))) rfl rfl rfl rfl rfl rfl (.inr fun _ _ => (fun _ h => h)) (fun _ _ => ?_)
            refine ord_val_yes rfl rfl rfl rfl rfl rfl (fun _ h => h) (val_not rfl rfl) ?_
            refine ord_val rfl rfl rfl rfl (fun _ h => h) (val_pick rfl rfl rfl rfl) ?_
            refine ord_nil ?_
            refine thru_on ?_
            refine pk_ifn rfl (fun h5 => ?_) (fun h5 => ?_)
            · skip
              have hne : (vs.getD k dV).a ≠ (ws.getD k dV).a := fun e => by rw [e] at h5; simp at h5
              refine pk_seq ?_
              refine pk_region ?_
              refine pk_val rfl rfl rfl (val_assign rfl rfl) ?_
              refine pk_nil ?_
              refine thru_on ?_
              refine pk_ret ?_
              refine in_ret ?_
              refine thru_ret ?_
              refine thru_ret ?_
              refine in_ret ?_
              refine thru_ret ?_
              refine ret1 rfl rfl fun w s => ⟨?_, s⟩
              rw [avs_ne hk hk2 hne]
            · skip
              refine pk_skip ?_
              refine in_on ?_
              refine thru_on ?_
              refine pk_region ?_
              refine pk_val rfl rfl rfl (val_move rfl rfl) ?_
              refine pk_val rfl rfl rfl (val_add rfl rfl rfl (by omega)) ?_
              refine pk_val rfl rfl rfl (val_assign rfl rfl) ?_
              refine pk_nil ?_
              refine thru_on ?_
              refine pk_next (x := k) (k + 1) ?_ ?_ ?_ ?_
              · (try dsimp only) <;> exact ⟨by omega, fun j hj => by
                      by_cases e : j = k
                      · subst e; exact av_ext h2 h3 h4 (by simpa using h5)
                      · exact hI j (by omega)⟩
              · (try dsimp only); exact (by omega)
              · exact ⟨(Sub.cons rfl (by first | rfl | (congr 1; omega) | simp) (Sub.cons rfl (by first | rfl | (congr 1; omega) | simp) (Sub.cons rfl (by first | rfl | (congr 1; omega) | simp) (Sub.nil _)))), rfl⟩
              · exact (fun _ h => h)
          · skip
            refine Pk.slot 54 (v := .bool true) rfl (congrArg Value.bool (decide_eq_true h4)) ?_
            have hne : (vs.getD k dV).a ≠ (ws.getD k dV).a := fun e => h4 (by rw [e])
            refine ord_val_no rfl rfl rfl rfl rfl rfl rfl (fun _ h => h) ?_
            refine ord_val_no rfl rfl rfl rfl rfl rfl rfl (fun _ h => h) ?_
            refine ord_val_no rfl rfl rfl rfl rfl rfl rfl (fun _ h => h) ?_
            refine ord_val_no rfl rfl rfl rfl rfl rfl rfl (fun _ h => h) ?_
            refine ord_val_no rfl rfl rfl rfl rfl rfl rfl (fun _ h => h) ?_
            refine ord_val_no rfl rfl rfl rfl rfl rfl rfl (fun _ h => h) ?_
            refine ord_val_no rfl rfl rfl rfl rfl rfl rfl (fun _ h => h) ?_
            refine ord_val_no rfl rfl rfl rfl rfl rfl rfl (fun _ h => h) ?_
            refine ord_val_no rfl rfl rfl rfl rfl rfl rfl (fun _ h => h) ?_
            refine ord_val_no rfl rfl rfl rfl rfl rfl rfl (fun _ h => h) ?_
            refine ord_eff_no rfl rfl rfl rfl rfl rfl rfl (fun _ h => h) ?_
            refine ord_val_no rfl rfl rfl rfl rfl rfl rfl (fun _ h => h) ?_
            refine ord_val rfl rfl rfl rfl (fun _ h => h) (val_pick rfl rfl rfl rfl) ?_
            refine ord_nil ?_
            refine thru_on ?_
            refine pk_cond_t rfl ?_
            refine pk_seq ?_
            refine pk_region ?_
            refine pk_val rfl rfl rfl (val_assign rfl rfl) ?_
            refine pk_nil ?_
            refine thru_on ?_
            refine pk_ret ?_
            refine in_ret ?_
            refine thru_ret ?_
            refine thru_ret ?_
            refine in_ret ?_
            refine thru_ret ?_
            refine ret1 rfl rfl fun w s => ⟨?_, s⟩
            rw [avs_ne hk hk2 hne]
        · skip
          refine Pk.slot 41 (v := .bool true) rfl (congrArg Value.bool (decide_eq_true h3)) ?_
          have hne : (vs.getD k dV).a ≠ (ws.getD k dV).a := fun e => h3 (by rw [e])
          refine ord_val_no rfl rfl rfl rfl rfl rfl rfl (fun _ h => h) ?_
          refine ord_val_no rfl rfl rfl rfl rfl rfl rfl (fun _ h => h) ?_
          refine ord_val_no rfl rfl rfl rfl rfl rfl rfl (fun _ h => h) ?_
          refine ord_val_no rfl rfl rfl rfl rfl rfl rfl (fun _ h => h) ?_
          refine ord_val_no rfl rfl rfl rfl rfl rfl rfl (fun _ h => h) ?_
          refine ord_val_no rfl rfl rfl rfl rfl rfl rfl (fun _ h => h) ?_
          refine ord_val_no rfl rfl rfl rfl rfl rfl rfl (fun _ h => h) ?_
          refine ord_val_no rfl rfl rfl rfl rfl rfl rfl (fun _ h => h) ?_
          refine ord_val_no rfl rfl rfl rfl rfl rfl rfl (fun _ h => h) ?_
          refine ord_val_no rfl rfl rfl rfl rfl rfl rfl (fun _ h => h) ?_
          refine ord_val_no rfl rfl rfl rfl rfl rfl rfl (fun _ h => h) ?_
          refine ord_val rfl rfl rfl rfl (fun _ h => h) (val_pick rfl rfl rfl rfl) ?_
          refine ord_val rfl rfl rfl rfl (fun _ h => h) (val_move rfl rfl) ?_
          refine ord_val_no rfl rfl rfl rfl rfl rfl rfl (fun _ h => h) ?_
          refine ord_val_no rfl rfl rfl rfl rfl rfl rfl (fun _ h => h) ?_
          refine ord_val_no rfl rfl rfl rfl rfl rfl rfl (fun _ h => h) ?_
          refine ord_val_no rfl rfl rfl rfl rfl rfl rfl (fun _ h => h) ?_
          refine ord_val_no rfl rfl rfl rfl rfl rfl rfl (fun _ h => h) ?_
          refine ord_val_no rfl rfl rfl rfl rfl rfl rfl (fun _ h => h) ?_
          refine ord_val_no rfl rfl rfl rfl rfl rfl rfl (fun _ h => h) ?_
          refine ord_val_no rfl rfl rfl rfl rfl rfl rfl (fun _ h => h) ?_
          refine ord_val_no rfl rfl rfl rfl rfl rfl rfl (fun _ h => h) ?_
          refine ord_val_no rfl rfl rfl rfl rfl rfl rfl (fun _ h => h) ?_
          refine ord_eff_no rfl rfl rfl rfl rfl rfl rfl (fun _ h => h) ?_
          refine ord_val_no rfl rfl rfl rfl rfl rfl rfl (fun _ h => h) ?_
          refine ord_val rfl rfl rfl rfl (fun _ h => h) (val_pick rfl rfl rfl rfl) ?_
          refine ord_nil ?_
          refine thru_on ?_
          refine pk_cond_t rfl ?_
          refine pk_seq ?_
          refine pk_region ?_
          refine pk_val rfl rfl rfl (val_assign rfl rfl) ?_
          refine pk_nil ?_
          refine thru_on ?_
          refine pk_ret ?_
          refine in_ret ?_
          refine thru_ret ?_
          refine thru_ret ?_
          refine in_ret ?_
          refine thru_ret ?_
          refine ret1 rfl rfl fun w s => ⟨?_, s⟩
          rw [avs_ne hk hk2 hne]
      · skip
        refine Pk.slot 28 (v := .bool true) rfl (congrArg Value.bool (decide_eq_true h2)) ?_
        have hne : (vs.getD k dV).a ≠ (ws.getD k dV).a := fun e => h2 (by rw [e])
        refine ord_val_no rfl rfl rfl rfl rfl rfl rfl (fun _ h => h) ?_
        refine ord_val_no rfl rfl rfl rfl rfl rfl rfl (fun _ h => h) ?_
        refine ord_val_no rfl rfl rfl rfl rfl rfl rfl (fun _ h => h) ?_
        refine ord_val_no rfl rfl rfl rfl rfl rfl rfl (fun _ h => h) ?_
        refine ord_val_no rfl rfl rfl rfl rfl rfl rfl (fun _ h => h) ?_
        refine ord_val_no rfl rfl rfl rfl rfl rfl rfl (fun _ h => h) ?_
        refine ord_val_no rfl rfl rfl rfl rfl rfl rfl (fun _ h => h) ?_
        refine ord_val_no rfl rfl rfl rfl rfl rfl rfl (fun _ h => h) ?_
        refine ord_val_no rfl rfl rfl rfl rfl rfl rfl (fun _ h => h) ?_
        refine ord_val_no rfl rfl rfl rfl rfl rfl rfl (fun _ h => h) ?_
        refine ord_val_no rfl rfl rfl rfl rfl rfl rfl (fun _ h => h) ?_
        refine ord_val rfl rfl rfl rfl (fun _ h => h) (val_pick rfl rfl rfl rfl) ?_
        refine ord_val rfl rfl rfl rfl (fun _ h => h) (val_move rfl rfl) ?_
        refine ord_val_no rfl rfl rfl rfl rfl rfl rfl (fun _ h => h) ?_
        refine ord_val_no rfl rfl rfl rfl rfl rfl rfl (fun _ h => h) ?_
        refine ord_val_no rfl rfl rfl rfl rfl rfl rfl (fun _ h => h) ?_
        refine ord_val_no rfl rfl rfl rfl rfl rfl rfl (fun _ h => h) ?_
        refine ord_val_no rfl rfl rfl rfl rfl rfl rfl (fun _ h => h) ?_
        refine ord_val_no rfl rfl rfl rfl rfl rfl rfl (fun _ h => h) ?_
        refine ord_val_no rfl rfl rfl rfl rfl rfl rfl (fun _ h => h) ?_
        refine ord_val_no rfl rfl rfl rfl rfl rfl rfl (fun _ h => h) ?_
        refine ord_val_no rfl rfl rfl rfl rfl rfl rfl (fun _ h => h) ?_
        refine ord_val_no rfl rfl rfl rfl rfl rfl rfl (fun _ h => h) ?_
        refine ord_val_no rfl rfl rfl rfl rfl rfl rfl (fun _ h => h) ?_
        refine ord_val rfl rfl rfl rfl (fun _ h => h) (val_pick rfl rfl rfl rfl) ?_
        refine ord_val rfl rfl rfl rfl (fun _ h => h) (val_move rfl rfl) ?_
        refine ord_val_no rfl rfl rfl rfl rfl rfl rfl (fun _ h => h) ?_
        refine ord_val_no rfl rfl rfl rfl rfl rfl rfl (fun _ h => h) ?_
        refine ord_val_no rfl rfl rfl rfl rfl rfl rfl (fun _ h => h) ?_
        refine ord_val_no rfl rfl rfl rfl rfl rfl rfl (fun _ h => h) ?_
        refine ord_val_no rfl rfl rfl rfl rfl rfl rfl (fun _ h => h) ?_
        refine ord_val_no rfl rfl rfl rfl rfl rfl rfl (fun _ h => h) ?_
        refine ord_val_no rfl rfl rfl rfl rfl rfl rfl (fun _ h => h) ?_
        refine ord_val_no rfl rfl rfl rfl rfl rfl rfl (fun _ h => h) ?_
        refine ord_val_no rfl rfl rfl rfl rfl rfl rfl (fun _ h => h) ?_
        refine ord_val_no rfl rfl rfl rfl rfl rfl rfl (fun _ h => h) ?_
        refine ord_eff_no rfl rfl rfl rfl rfl rfl rfl (fun _ h => h) ?_
        refine ord_val_no rfl rfl rfl rfl rfl rfl rfl (fun _ h => h) ?_
        refine ord_val rfl rfl rfl rfl (fun _ h => h) (val_pick rfl rfl rfl rfl) ?_
        refine ord_nil ?_
        refine thru_on ?_
        refine pk_cond_t rfl ?_
        refine pk_seq ?_
        refine pk_region ?_
        refine pk_val rfl rfl rfl (val_assign rfl rfl) ?_
        refine pk_nil ?_
        refine thru_on ?_
        refine pk_ret ?_
        refine in_ret ?_
        refine thru_ret ?_
        refine thru_ret ?_
        refine in_ret ?_
        refine thru_ret ?_
        refine ret1 rfl rfl fun w s => ⟨?_, s⟩
        rw [avs_ne hk hk2 hne]
    · skip
      refine pk_exit ?_
      refine thru ?_
      refine thru ?_
      refine pk_here ?_
      refine thru_on ?_
      refine pk_seq ?_
      refine pk_region ?_
      refine pk_val rfl rfl rfl (val_assign rfl rfl) ?_
      refine pk_nil ?_
      refine thru_on ?_
      refine pk_ret ?_
      refine ret1 rfl rfl fun w s => ⟨?_, s⟩
      have hkk : k = vs.length := by omega
      rw [avs_eq_of hlen (by rw [← hkk]; exact hI)]
end Go.Proofs.Ytdpckendkklfdaa
