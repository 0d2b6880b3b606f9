/- The walks of package hybrid, third part: may, good, home, First. -/
import Derived.Test.YtdpckendkklfdaaGreatHyB
import Derived.Test.YtdpckendkklfdaaGreatSoB
import Derived.Test.YtdpckendkklfdaaGreatStD
set_option linter.unusedVariables false
set_option linter.unusedSimpArgs false
set_option maxRecDepth 100000
namespace Go.Proofs.YtdpckendkklfdaaGreat
open Go.RowKit Go.Proofs.Eng
def sp (p : Option Nat) : Value := .pointer (p.map fun B => ⟨B, 0, none⟩)
def goodB (ps : List (Option Nat)) : Bool := decide (1 ≤ ps.length) && decide (ps.length ≤ 64) && !ps.any (fun p => p.isNone)
theorem slices_Index_store_c {E w : World} {L : List Ch} {A : Option Addr} {c n : Nat} {l : List (Option Nat)} (s : Sat E w L) (hr : Ent L (RdL A (l.map sp))) (hn : l.length = n) (hl : n ≤ 4611686018427387904) :
    Calls Tryz.prog 217 #[.slice A n c, .pointer none] w (Gives E (.int .i64 (idxF (fun y => y.isNone) l)) L) := by
  subst hn
  refine enter (vs := [_, _]) Tryz.func217 rfl Tryz.ntmps217 rfl s ?_
  refine pk_seq ?_
  refine pk_region ?_
  refine pk_val rfl rfl rfl (val_assign rfl rfl) ?_
  refine pk_nil ?_
  refine thru_on ?_
  refine pk_seq ?_
  refine pk_seq ?_
  refine pk_region ?_
  refine pk_val rfl rfl rfl (val_move rfl rfl) ?_
  refine pk_val rfl rfl rfl (val_len_slice rfl Tryz.underlying61 rfl) ?_
  refine pk_val rfl rfl rfl (val_move rfl rfl) ?_
  refine pk_nil ?_
  refine thru_on ?_
  refine pk_block ?_
  refine pk_loop (α := Nat) (0) (fun k => [(0, .slice A l.length c), (1, .pointer none), (7, .int .i64 (l.length : Nat)), (8, .int .i64 (k : Nat))]) (fun k => L) (fun k => k ≤ l.length ∧ ∀ j, j < k → (fun y : Option Nat => y.isNone) (l.getD j none) = false) (fun k => l.length - k) ?_ ?_ ?_ ?_
  · (try dsimp only) <;> exact ⟨Nat.zero_le _, fun j h => by omega⟩
  · exact ⟨(Sub.cons rfl (by first | rfl | (congr 1; omega) | simp) (Sub.cons rfl (by first | rfl | (congr 1; omega) | simp) (Sub.cons rfl (by first | rfl | (congr 1; omega) | simp) (Sub.cons rfl (by first | rfl | (congr 1; omega) | simp) (Sub.nil _))))), rfl⟩
  · exact (fun _ h => h)
  rintro k ⟨hk0, hI⟩
  refine pk_seq ?_
  refine pk_region ?_
  refine pk_val rfl rfl rfl (val_lss rfl rfl rfl) ?_
  refine pk_nil ?_
  refine thru_on ?_
  refine pk_seq ?_
  refine pk_if rfl (fun h => ?_) (fun h => ?_)
  · skip
    refine pk_skip ?_
    refine thru_on ?_
    have hk : k < l.length := by omega
    refine Pk.tells (hr.some_of (by rw [List.length_map]; omega)) fun hA => ?_
    refine pk_seq ?_
    refine pk_block ?_
    refine pk_seq ?_
    refine pk_region ?_
    refine pk_val rfl rfl rfl (val_move rfl rfl) ?_
    refine pk_val rfl rfl rfl (val_assign rfl rfl) ?_
    refine pk_nil ?_
    refine thru_on ?_
    refine pk_seq ?_
    refine pk_region ?_
    refine pk_val rfl rfl rfl (val_move rfl rfl) ?_
    refine pk_val rfl rfl rfl (val_move rfl rfl) ?_
    refine pk_val rfl rfl rfl (val_move rfl rfl) ?_
    refine pk_val rfl rfl rfl (val_indexAddr rfl Tryz.underlying61 1 (by kernel_rfl) rfl rfl k rfl hk (Ent.pure hA)) ?_
    refine pk_val rfl rfl rfl (val_load rfl Tryz.underlying59 rfl rfl (hr.rd (get_map none hk))) ?_
    refine pk_val rfl rfl rfl (val_pnil_eql (a := none) (b := (l.getD k none).map fun B => ⟨B, 0, none⟩) rfl Tryz.underlying59 rfl rfl (.inl rfl)) ?_
    refine pk_nil ?_
    refine thru_on ?_
    refine pk_if rfl (fun h2 => ?_) (fun h2 => ?_)
    · skip
      refine pk_seq ?_
      refine pk_region ?_
      refine pk_val rfl rfl rfl (val_move rfl rfl) ?_
      refine pk_val rfl rfl rfl (val_assign rfl rfl) ?_
      refine pk_nil ?_
      refine thru_on ?_
      refine pk_ret ?_
      refine in_ret ?_
      refine thru_ret ?_
      refine thru_ret ?_
      refine in_ret ?_
      refine thru_ret ?_
      refine ret1 rfl rfl fun w s => ⟨?_, s⟩
      have h3 : (l.getD k none).isNone = true := by
        cases e : l.getD k none with
        | none => rfl
        | some B => rw [e] at h2; cases h2
      rw [idxF_at none hk h3 hI]
    · skip
      refine pk_skip ?_
      refine in_on ?_
      refine thru_on ?_
      refine pk_region ?_
      refine pk_val rfl rfl rfl (val_add rfl rfl rfl (by omega)) ?_
      refine pk_val rfl rfl rfl (val_move rfl rfl) ?_
      refine pk_nil ?_
      refine thru_on ?_
      refine pk_next (x := k) (k + 1) ?_ ?_ ?_ ?_
      · (try dsimp only) <;> exact ⟨hk, fun j hj => by
        by_cases e : j = k
        · subst e
          show (l.getD j none).isNone = false
          cases e : l.getD j none with
          | none => rw [e] at h2; exact absurd rfl h2
          | some B => rfl
        · exact hI j (by omega)⟩
      · (try dsimp only); exact (by omega)
      · exact ⟨(Sub.cons rfl (by first | rfl | (congr 1; omega) | simp) (Sub.cons rfl (by first | rfl | (congr 1; omega) | simp) (Sub.cons rfl (by first | rfl | (congr 1; omega) | simp) (Sub.cons rfl (by first | rfl | (congr 1; omega) | simp) (Sub.nil _))))), rfl⟩
      · exact (fun _ h => h)
  · skip
    refine pk_exit ?_
    refine thru ?_
    refine thru ?_
    refine pk_here ?_
    refine thru_on ?_
    refine pk_seq ?_
    refine pk_region ?_
    refine pk_val rfl rfl rfl (val_assign rfl rfl) ?_
    refine pk_nil ?_
    refine thru_on ?_
    refine pk_ret ?_
    have hkk : k = l.length := by omega
    subst hkk
    refine ret1 rfl rfl fun w s => ⟨?_, s⟩
    rw [idxF_no none hI]
theorem slices_Contains_store_c {E w : World} {L : List Ch} {A : Option Addr} {c n : Nat} {l : List (Option Nat)} (s : Sat E w L) (hr : Ent L (RdL A (l.map sp))) (hn : l.length = n) (hl : n ≤ 4611686018427387904) :
    Calls Tryz.prog 161 #[.slice A n c, .pointer none] w (Gives E (.bool (l.any (fun y => y.isNone))) L) := by
  refine enter (vs := [_, _]) Tryz.func161 rfl Tryz.ntmps161 rfl s ?_
  refine pk_seq ?_
  refine pk_region ?_
  refine pk_val rfl rfl rfl (val_assign rfl rfl) ?_
  refine pk_nil ?_
  refine thru_on ?_
  refine pk_seq ?_
  refine pk_region ?_
  refine pk_val rfl rfl rfl (val_move rfl rfl) ?_
  refine pk_val rfl rfl rfl (val_move rfl rfl) ?_
  refine pk_eff (eff_call1 rfl ⟨_, Tryz.func217, by kernel_rfl, rfl⟩ rfl (fun E w s => slices_Index_store_c s hr hn hl)) rfl rfl rfl (fun _ _ => ?_)
  refine pk_val rfl rfl rfl (val_geq rfl rfl rfl) ?_
  refine pk_val rfl rfl rfl (val_assign rfl rfl) ?_
  refine pk_nil ?_
  refine thru_on ?_
  refine pk_ret ?_
  refine ret1 rfl rfl fun w s => ⟨?_, s⟩
  rw [idxF_pos]
theorem hybrid_good_c {E w : World} {L : List Ch} {A : Option Addr} {c n : Nat} {l : List (Option Nat)} (s : Sat E w L) (hr : Ent L (RdL A (l.map sp))) (hn : l.length = n) (hl : n ≤ 1099511627776) :
    Calls Tryz.prog 83 #[.slice A n c] w (Gives E (.bool (goodB l)) L) := by
  refine enter (vs := [_]) Tryz.func83 rfl Tryz.ntmps83 rfl s ?_
  refine pk_seq ?_
  refine pk_region ?_
  refine pk_val rfl rfl rfl (val_assign rfl rfl) ?_
  refine pk_nil ?_
  refine thru_on ?_
  refine pk_seq ?_
  refine pk_region ?_
  refine pk_val rfl rfl rfl (val_move rfl rfl) ?_
  refine pk_val rfl rfl rfl (val_len_slice rfl Tryz.underlying61 rfl) ?_
  refine pk_val rfl rfl rfl (val_geq rfl rfl rfl) ?_
  refine pk_val rfl rfl rfl (val_move rfl rfl) ?_
  by_cases h1 : 1 ≤ n
  · skip
    refine Pk.slot 6 (v := .bool true) rfl (congrArg Value.bool (decide_eq_true (by omega))) ?_
    refine pk_guard_yes rfl rfl rfl ?_
    refine pk_val rfl rfl rfl (val_move rfl rfl) ?_
    refine pk_guard_yes rfl rfl rfl ?_
    refine pk_val rfl rfl rfl (val_len_slice rfl Tryz.underlying61 rfl) ?_
    refine pk_guard_yes rfl rfl rfl ?_
    refine pk_val rfl rfl rfl (val_leq rfl rfl rfl) ?_
    refine pk_val rfl rfl rfl (val_pick rfl rfl rfl rfl) ?_
    refine pk_val rfl rfl rfl (val_move rfl rfl) ?_
    by_cases h2 : n ≤ 64
    · skip
      refine Pk.slot 11 (v := .bool true) rfl (congrArg Value.bool (decide_eq_true (by omega))) ?_
      refine pk_guard_yes rfl rfl rfl ?_
      refine pk_val rfl rfl rfl (val_move rfl rfl) ?_
      refine pk_guard_yes rfl rfl rfl ?_
      refine pk_eff (eff_call1 rfl ⟨_, Tryz.func161, by kernel_rfl, rfl⟩ rfl (fun E w s => slices_Contains_store_c s hr hn (by omega))) rfl rfl rfl (fun _ _ => ?_)
      refine pk_guard_yes rfl rfl rfl ?_
      refine pk_val rfl rfl rfl (val_not rfl rfl) ?_
      refine pk_val rfl rfl rfl (val_pick rfl rfl rfl rfl) ?_
      refine pk_val rfl rfl rfl (val_assign rfl rfl) ?_
      refine pk_nil ?_
      refine thru_on ?_
      refine pk_ret ?_
      refine ret1 rfl rfl fun w s => ⟨?_, s⟩
      have e : goodB l = !l.any (fun y => y.isNone) := by rw [goodB, hn, decide_eq_true h1, decide_eq_true h2]; rfl
      rw [e]; rfl
    · skip
      refine Pk.slot 11 (v := .bool false) rfl (congrArg Value.bool (decide_eq_false (by omega))) ?_
      refine pk_guard_no rfl rfl rfl rfl rfl rfl ?_
      refine pk_guard_no rfl rfl rfl rfl rfl rfl ?_
      refine pk_guard_no rfl rfl rfl rfl rfl rfl ?_
      refine pk_val rfl rfl rfl (val_pick rfl rfl rfl rfl) ?_
      refine pk_val rfl rfl rfl (val_assign rfl rfl) ?_
      refine pk_nil ?_
      refine thru_on ?_
      refine pk_ret ?_
      refine ret1 rfl rfl fun w s => ⟨?_, s⟩
      have e : goodB l = false := by rw [goodB, hn, decide_eq_false h2]; simp
      rw [e]; rfl
  · skip
    refine Pk.slot 6 (v := .bool false) rfl (congrArg Value.bool (decide_eq_false (by omega))) ?_
    refine pk_guard_no rfl rfl rfl rfl rfl rfl ?_
    refine pk_guard_no rfl rfl rfl rfl rfl rfl ?_
    refine pk_guard_no rfl rfl rfl rfl rfl rfl ?_
    refine pk_val rfl rfl rfl (val_pick rfl rfl rfl rfl) ?_
    refine pk_val rfl rfl rfl (val_move rfl rfl) ?_
    refine pk_guard_no rfl rfl rfl rfl rfl rfl ?_
    refine pk_guard_no rfl rfl rfl rfl rfl rfl ?_
    refine pk_guard_no rfl rfl rfl rfl rfl rfl ?_
    refine pk_val rfl rfl rfl (val_pick rfl rfl rfl rfl) ?_
    refine pk_val rfl rfl rfl (val_assign rfl rfl) ?_
    refine pk_nil ?_
    refine thru_on ?_
    refine pk_ret ?_
    refine ret1 rfl rfl fun w s => ⟨?_, s⟩
    have e : goodB l = false := by rw [goodB, hn, decide_eq_false h1]; rfl
    rw [e]; rfl
theorem hybrid_may_c {E w : World} {L : List Ch} {b h : Int} (s : Sat E w L) :
    Calls Tryz.prog 84 #[.agg #[.int .i64 b, .int .i64 h]] w (Gives E (.bool (mayF b h)) L) := by
  refine enter (vs := [_]) Tryz.func84 rfl Tryz.ntmps84 rfl s ?_
  refine pk_seq ?_
  refine pk_region ?_
  refine pk_eff (eff_box rfl rfl rfl) rfl rfl rfl (fun b1 _ => ?_)
  refine pk_val rfl rfl rfl (val_assign rfl rfl) ?_
  refine pk_nil ?_
  refine thru_on ?_
  refine pk_seq ?_
  refine pk_region ?_
  refine pk_val rfl rfl rfl (val_fieldAddr rfl Tryz.underlying35 0 1 (by kernel_rfl) (by decide) rfl (Ent.pure rfl)) ?_
  refine pk_val rfl rfl rfl (val_load (v := .int .i64 b) rfl Tryz.underlying3 rfl rfl ((Ent.own 0 rfl).rd rfl)) ?_
  refine pk_val rfl rfl rfl (val_fieldAddr rfl Tryz.underlying35 1 1 (by kernel_rfl) (by decide) rfl (Ent.pure rfl)) ?_
  refine pk_val rfl rfl rfl (val_load (v := .int .i64 h) rfl Tryz.underlying3 rfl rfl ((Ent.own 0 rfl).rd rfl)) ?_
  by_cases hm : mayF b h = true
  · skip
    have hmm := (mayF_iff _ _).1 hm
    obtain ⟨bn, rfl⟩ := Int.eq_ofNat_of_zero_le (show 0 ≤ b by omega)
    obtain ⟨hn, rfl⟩ := Int.eq_ofNat_of_zero_le (show 0 ≤ h by omega)
    refine pk_eff (eff_callx rfl ⟨_, Tryz.func64, by kernel_rfl, rfl⟩ rfl (fun E w s => bloom_New_c (b := bn) (h := hn) s hm)) rfl rfl rfl (fun q10 _ => ?_)
    refine pk_val rfl rfl rfl (val_move rfl rfl) ?_
    refine pk_val rfl rfl rfl (val_extract rfl rfl rfl) ?_
    refine pk_val rfl rfl rfl (val_extract rfl rfl rfl) ?_
    refine pk_val rfl rfl rfl (val_assign rfl rfl) ?_
    refine pk_val rfl rfl rfl (val_assign rfl rfl) ?_
    refine pk_nil ?_
    refine thru_on ?_
    refine pk_seq ?_
    refine pk_region ?_
    refine pk_val rfl rfl rfl (val_move rfl rfl) ?_
    refine pk_val rfl rfl rfl (val_eql rfl rfl rfl) ?_
    refine pk_val rfl rfl rfl (val_assign rfl rfl) ?_
    refine pk_nil ?_
    refine thru_on ?_
    refine pk_ret ?_
    refine ret1 rfl rfl fun w s => ⟨?_, s.to (fun _ h => Sats.keep [false, false] h)⟩
    rw [hm]; rfl
  · skip
    refine pk_eff (eff_call1 rfl ⟨_, Tryz.func64, by kernel_rfl, rfl⟩ rfl (fun E w s => bloom_New_no s (by simpa using hm))) rfl rfl rfl (fun _ _ => ?_)
    refine pk_val rfl rfl rfl (val_move rfl rfl) ?_
    refine pk_val rfl rfl rfl (val_extract rfl rfl rfl) ?_
    refine pk_val rfl rfl rfl (val_extract rfl rfl rfl) ?_
    refine pk_val rfl rfl rfl (val_assign rfl rfl) ?_
    refine pk_val rfl rfl rfl (val_assign rfl rfl) ?_
    refine pk_nil ?_
    refine thru_on ?_
    refine pk_seq ?_
    refine pk_region ?_
    refine pk_val rfl rfl rfl (val_move rfl rfl) ?_
    refine pk_val rfl rfl rfl (val_eql rfl rfl rfl) ?_
    refine pk_val rfl rfl rfl (val_assign rfl rfl) ?_
    refine pk_nil ?_
    refine thru_on ?_
    refine pk_ret ?_
    refine ret1 rfl rfl fun w s => ⟨?_, s.to (fun _ h => Sats.keep [false] h)⟩
    have hm' : mayF b h = false := by simpa using hm
    rw [hm']; rfl
abbrev Zt := Nat × St
def dZt : Zt := (0, ⟨0, 0, 0, 0, [], [], [], []⟩)
def stC (z : Zt) : Ch := stCh z.1 z.2
def stsC (zs : List Zt) : Ch := Eng.cat (zs.map stC)
def zps (zs : List Zt) : List (Option Nat) := zs.map fun z => some z.1
theorem zps_good {zs : List Zt} (h1 : 1 ≤ zs.length) (h2 : zs.length ≤ 64) : goodB (zps zs) = true := by
  have : (zps zs).any (fun p => p.isNone) = false := by simp [zps]
  rw [goodB, this, decide_eq_true (show 1 ≤ (zps zs).length by simpa [zps] using h1), decide_eq_true (show (zps zs).length ≤ 64 by simpa [zps] using h2)]; rfl
theorem zps_get {zs : List Zt} {n : Nat} (h : n < zs.length) : ((zps zs).map sp)[n * 1]? = some (ptr (some ⟨(zs.getD n dZt).1, 0, none⟩) 0) := by
  rw [get_map none (by simpa [zps] using h)]
  simp [zps, h]; rfl
theorem cat_back {α : Type} {f : α → Ch} {l : List α} {L : List Ch} {h : Hp} {i : Nat} {d : α} (hi : i < l.length) (s : Sats (f (l.getD i d) :: Eng.cat ((l.eraseIdx i).map f) :: L) h) : Sats (Eng.cat (l.map f) :: L) h := by
  have h1 := Sats.cat_put i hi s
  have e : l.set i (l.getD i d) = l := by
    apply List.ext_getElem?
    intro j
    rw [List.getElem?_set]
    by_cases e : i = j
    · subst e; simp [hi]
    · simp [e]
  rw [e] at h1; exact h1
def KeySz (a : Sa) : Prop := ∀ p ∈ a.vs, ∀ k ∈ p.2.keys, k.size ≤ 65535
structure StsOk (N : Nat) (zs : List Zt) : Prop where
  small : ∀ z ∈ zs, Small N z.2.a
  keys : ∀ z ∈ zs, KeySz z.2.a
theorem KeySz.ver {a : Sa} (h : KeySz a) (n : Nm) : ∀ k ∈ (verA a n).keys, k.size ≤ 65535 := aget_all (P := fun x : Ha => ∀ k ∈ x.keys, k.size ≤ 65535) h n (fun k hk => by cases hk)
theorem KeySz.lat {a : Sa} (h : KeySz a) (k : ByteArray) : ∀ x ∈ (latA a k).keys, x.size ≤ 65535 := by
  unfold latA; split
  · exact h.ver _
  · intro x hx; cases hx
theorem KeySz.by {a : Sa} (h : KeySz a) (n : Nm) : ∀ x ∈ (byA a n).keys, x.size ≤ 65535 := by
  unfold byA; split
  · exact h.ver _
  · intro x hx; cases hx
def homeZ (zs : List Zt) (k : ByteArray) : Zt := zs.getD (ofN k zs.length) dZt
theorem sts_Latest_c {E w : World} {L : List Ch} {N n : Nat} {zs : List Zt} {k : ByteArray} (s : Sat E w (stsC zs :: L)) (hn : n < zs.length) (hS : StsOk N zs) :
    Calls Tryz.prog 43 #[ptr (some ⟨(zs.getD n dZt).1, 0, none⟩) 0, .string k] w (GivesX E (fun q : Option Addr × Nat => .agg (⟨latA (zs.getD n dZt).2.a k, q.1, q.2⟩ : Ver).cells.toArray) (fun q => keysC ⟨latA (zs.getD n dZt).2.a k, q.1, q.2⟩ :: stsC zs :: L) (fun _ => True)) :=
  (store_Latest_c (s.to fun _ h => Sats.cat_at n dZt hn h) (hS.small _ (getD_mem dZt hn))).mono fun e w' ⟨q, hq, he, hs⟩ => ⟨q, hq, he, hs.to fun _ h => Sats.under (fun _ h => cat_back hn h) h⟩
theorem sts_ByID_c {E w : World} {L : List Ch} {N n : Nat} {zs : List Zt} {k : ByteArray} {id : Int} (s : Sat E w (stsC zs :: L)) (hn : n < zs.length) (hS : StsOk N zs) :
    Calls Tryz.prog 42 #[ptr (some ⟨(zs.getD n dZt).1, 0, none⟩) 0, .string k, .int .u64 id] w (GivesX E (fun q : Option Addr × Nat => .tuple #[.agg (⟨byA (zs.getD n dZt).2.a (k, id), q.1, q.2⟩ : Ver).cells.toArray, .int .i64 (byE (zs.getD n dZt).2.a (k, id))]) (fun q => keysC ⟨byA (zs.getD n dZt).2.a (k, id), q.1, q.2⟩ :: stsC zs :: L) (fun _ => True)) :=
  (store_ByID_c (s.to fun _ h => Sats.cat_at n dZt hn h) (hS.small _ (getD_mem dZt hn))).mono fun e w' ⟨q, hq, he, hs⟩ => ⟨q, hq, he, hs.to fun _ h => Sats.under (fun _ h => cat_back hn h) h⟩
theorem hybrid_home_c {E w : World} {L : List Ch} {A : Option Addr} {c n : Nat} {zs : List Zt} {k : ByteArray} (s : Sat E w L) (hr : Ent L (RdL A ((zps zs).map sp))) (hn : zs.length = n) (h1 : 1 ≤ n) (h2 : n ≤ 64) (hk : k.size ≤ 4611686018427387904) :
    Calls Tryz.prog 86 #[.slice A n c, .string k] w (Gives E (ptr (some ⟨(homeZ zs k).1, 0, none⟩) 0) L) := by
  refine enter (vs := [_, _]) Tryz.func86 rfl Tryz.ntmps86 rfl s ?_
  have hlt : ofN k n < n := ofN_lt k (by omega)
  refine Pk.tells (hr.some_of (by rw [List.length_map, zps, List.length_map]; omega)) fun hA => ?_
  refine pk_seq ?_
  refine pk_region ?_
  refine pk_val rfl rfl rfl (val_assign rfl rfl) ?_
  refine pk_nil ?_
  refine thru_on ?_
  refine pk_seq ?_
  refine pk_region ?_
  refine pk_val rfl rfl rfl (val_move rfl rfl) ?_
  refine pk_val rfl rfl rfl (val_move rfl rfl) ?_
  refine pk_val rfl rfl rfl (val_len_slice rfl Tryz.underlying61 rfl) ?_
  refine pk_eff (eff_call1 rfl ⟨_, Tryz.func28, by kernel_rfl, rfl⟩ rfl (fun E w s => shard_Of_c s hk (by simp only [mayP, Bool.and_eq_true, decide_eq_true_eq]; omega))) rfl rfl rfl (fun _ _ => ?_)
  refine pk_val rfl rfl rfl (val_move rfl rfl) ?_
  refine pk_val rfl rfl rfl (val_extract rfl rfl rfl) ?_
  refine pk_val rfl rfl rfl (val_extract rfl rfl rfl) ?_
  refine pk_val rfl rfl rfl (val_assign rfl rfl) ?_
  refine pk_val rfl rfl rfl (val_assign rfl rfl) ?_
  refine pk_nil ?_
  refine thru_on ?_
  refine pk_seq ?_
  refine pk_region ?_
  refine pk_val rfl rfl rfl (val_move rfl rfl) ?_
  refine pk_val rfl rfl rfl (val_move rfl rfl) ?_
  refine pk_val rfl rfl rfl (val_indexAddr rfl Tryz.underlying61 1 (by kernel_rfl) rfl rfl (ofN k n) rfl hlt (Ent.pure hA)) ?_
  refine pk_val rfl rfl rfl (val_load (v := ptr (some ⟨(zs.getD (ofN k n) dZt).1, 0, none⟩) 0) rfl Tryz.underlying59 rfl rfl (hr.rd (zps_get (by omega)))) ?_
  refine pk_val rfl rfl rfl (val_assign rfl rfl) ?_
  refine pk_nil ?_
  refine thru_on ?_
  refine pk_ret ?_
  refine ret1 rfl rfl fun w s => ⟨?_, s⟩
  rw [homeZ, hn]
def firstX (zs : List Zt) (b h : Int) (ks : List ByteArray) : List Sx := ks.map fun k => ofX (latA (homeZ zs k).2.a k) b h
theorem firstX_take {zs : List Zt} {b h : Int} {ks : List ByteArray} {k : Nat} (hk : k < ks.length) : firstX zs b h (ks.take (k + 1)) = firstX zs b h (ks.take k) ++ [ofX (latA (homeZ zs (ks.getD k emp)).2.a (ks.getD k emp)) b h] := by
  have e : ks.getD k emp = ks[k] := by simp [hk]
  rw [firstX, List.take_succ_eq_append_getElem hk, List.map_append, ← e]; rfl
theorem validK_parts {l : List ByteArray} (h : validK l = true) : 1 ≤ l.length ∧ l.length ≤ 1024 ∧ ∀ k ∈ l, k.size ≤ 65535 := by
  simp only [validK, Bool.and_eq_true, decide_eq_true_eq, List.all_eq_true] at h
  exact ⟨h.1.1.1, h.1.1.2, h.1.2⟩
theorem homeZ_mem {zs : List Zt} (h : 1 ≤ zs.length) (k : ByteArray) : homeZ zs k ∈ zs := getD_mem dZt (ofN_lt k (by omega))
theorem hybrid_First_no {E w : World} {L : List Ch} {A B : Option Addr} {c n m d : Nat} {ps : List (Option Nat)} {b h : Int} (s : Sat E w L) (hr : Ent L (RdL A (ps.map sp))) (hn : ps.length = n) (hl : n ≤ 1099511627776) (hno : (goodB ps && mayF b h) = false) :
    Calls Tryz.prog 26 #[.slice A n c, .slice B m d, .agg #[.int .i64 b, .int .i64 h]] w (Gives E (.tuple #[.slice none 0 0, .int .i64 1]) L) := by
  refine enter (vs := [_, _, _]) Tryz.func26 rfl Tryz.ntmps26 rfl s ?_
  refine pk_seq ?_
  refine pk_region ?_
  refine pk_eff (eff_box rfl rfl rfl) rfl rfl rfl (fun b5 _ => ?_)
  refine pk_val rfl rfl rfl (val_assign rfl rfl) ?_
  refine pk_val rfl rfl rfl (val_assign rfl rfl) ?_
  refine pk_nil ?_
  refine thru_on ?_
  refine pk_seq ?_
  refine pk_seq ?_
  refine pk_region ?_
  refine pk_val rfl rfl rfl (val_move rfl rfl) ?_
  refine pk_eff (eff_call1 rfl ⟨_, Tryz.func83, by kernel_rfl, rfl⟩ rfl (fun E w s => hybrid_good_c s hr.cons hn hl)) rfl rfl rfl (fun _ _ => ?_)
  refine pk_val rfl rfl rfl (val_not rfl rfl) ?_
  refine pk_val rfl rfl rfl (val_move rfl rfl) ?_
  by_cases hg : goodB ps = true
  · skip
    refine Pk.slot 16 (v := .bool false) rfl (by rw [hg]; rfl) ?_
    refine pk_guard_yes rfl rfl rfl ?_
    refine pk_val rfl rfl rfl (val_loads rfl Tryz.underlying35 rfl (by kernel_rfl) rfl (Ent.pure rfl) ((Ent.own 0 rfl).rds (fun j v h => by rw [Nat.zero_add j]; exact h))) ?_
    refine pk_guard_yes rfl rfl rfl ?_
    refine pk_eff (eff_call1 rfl ⟨_, Tryz.func84, by kernel_rfl, rfl⟩ rfl (fun E w s => hybrid_may_c s)) rfl rfl rfl (fun _ _ => ?_)
    refine pk_guard_yes rfl rfl rfl ?_
    refine pk_val rfl rfl rfl (val_not rfl rfl) ?_
    refine pk_val rfl rfl rfl (val_pick rfl rfl rfl rfl) ?_
    refine pk_nil ?_
    refine thru_on ?_
    refine pk_ifn rfl (fun hm => ?_) (fun hm => ?_)
    · skip
      refine pk_seq ?_
      refine pk_region ?_
      refine pk_val rfl rfl rfl (val_assign rfl rfl) ?_
      refine pk_val rfl rfl rfl (val_assign rfl rfl) ?_
      refine pk_nil ?_
      refine thru_on ?_
      refine pk_ret ?_
      refine thru_ret ?_
      refine ret2 rfl rfl rfl fun w s => ⟨rfl, s.to (fun _ h => Sats.keep [false] h)⟩
    · skip
      exfalso
      rw [hg, hm] at hno; cases hno
  · skip
    have hg' : goodB ps = false := by simpa using hg
    refine Pk.slot 16 (v := .bool true) rfl (by rw [hg']; rfl) ?_
    refine pk_guard_no rfl rfl rfl rfl rfl rfl ?_
    refine pk_guard_no rfl rfl rfl rfl rfl rfl ?_
    refine pk_guard_no rfl rfl rfl rfl rfl rfl ?_
    refine pk_val rfl rfl rfl (val_pick rfl rfl rfl rfl) ?_
    refine pk_nil ?_
    refine thru_on ?_
    refine pk_cond_t rfl ?_
    refine pk_seq ?_
    refine pk_region ?_
    refine pk_val rfl rfl rfl (val_assign rfl rfl) ?_
    refine pk_val rfl rfl rfl (val_assign rfl rfl) ?_
    refine pk_nil ?_
    refine thru_on ?_
    refine pk_ret ?_
    refine thru_ret ?_
    refine ret2 rfl rfl rfl fun w s => ⟨rfl, s.to (fun _ h => Sats.keep [false] h)⟩
theorem hybrid_First_c {E w : World} {L : List Ch} {A B : Option Addr} {c d N : Nat} {zs : List Zt} {ks : List ByteArray} {b e : Int} (s : Sat E w (stsC zs :: L)) (hr : Ent L (RdL A ((zps zs).map sp))) (h1 : 1 ≤ zs.length) (h2 : zs.length ≤ 64) (hk : Ent L (RdL B (ks.map .string))) (hm : mayF b e = true) (hv : validK ks = true) (hS : StsOk N zs)
    (hok : ∀ k ∈ ks, ofOk (latA (homeZ zs k).2.a k) b e = true) :
    Calls Tryz.prog 26 #[.slice A zs.length c, .slice B ks.length d, .agg #[.int .i64 b, .int .i64 e]] w (GivesX E (fun q : Option Addr × Nat × List Sl => .tuple #[.slice q.1 q.2.2.length q.2.1, .int .i64 0]) (fun q => own q.1 q.2.2.length q.2.1 30 4 (q.2.2.flatMap Sl.cells) :: Eng.cat (q.2.2.map slC) :: stsC zs :: L) (fun q => sxs q.2.2 = firstX zs b e ks)) := by
  refine enter (vs := [_, _, _]) Tryz.func26 rfl Tryz.ntmps26 rfl s ?_
  have hg := zps_good h1 h2
  have hvp := validK_parts hv
  refine pk_seq ?_
  refine pk_region ?_
  refine pk_eff (eff_box rfl rfl rfl) rfl rfl rfl (fun b5 _ => ?_)
  refine pk_val rfl rfl rfl (val_assign rfl rfl) ?_
  refine pk_val rfl rfl rfl (val_assign rfl rfl) ?_
  refine pk_nil ?_
  refine thru_on ?_
  refine pk_seq ?_
  refine pk_seq ?_
  refine pk_region ?_
  refine pk_val rfl rfl rfl (val_move rfl rfl) ?_
  refine pk_eff (eff_call1 rfl ⟨_, Tryz.func83, by kernel_rfl, rfl⟩ rfl (fun E w s => hybrid_good_c s hr.cons.cons (by simp [zps]) (by omega))) rfl rfl rfl (fun _ _ => ?_)
  refine pk_val rfl rfl rfl (val_not rfl rfl) ?_
  refine pk_val rfl rfl rfl (val_move rfl rfl) ?_
  refine Pk.slot 16 (v := .bool false) rfl (by rw [hg]; rfl) ?_
  refine pk_guard_yes rfl rfl rfl ?_
  refine pk_val rfl rfl rfl (val_loads rfl Tryz.underlying35 rfl (by kernel_rfl) rfl (Ent.pure rfl) ((Ent.own 0 rfl).rds (fun j v h => by rw [Nat.zero_add j]; exact h))) ?_
  refine pk_guard_yes rfl rfl rfl ?_
  refine pk_eff (eff_call1 rfl ⟨_, Tryz.func84, by kernel_rfl, rfl⟩ rfl (fun E w s => hybrid_may_c s)) rfl rfl rfl (fun _ _ => ?_)
  refine pk_guard_yes rfl rfl rfl ?_
  refine pk_val rfl rfl rfl (val_not rfl rfl) ?_
  refine pk_val rfl rfl rfl (val_pick rfl rfl rfl rfl) ?_
  refine pk_nil ?_
  refine thru_on ?_
  refine pk_ifn rfl (fun hm1 => ?_) (fun hm1 => ?_)
  · skip
    exfalso
    rw [hm] at hm1; cases hm1
  · skip
    refine pk_skip ?_
    refine thru_on ?_
    refine pk_seq ?_
    refine pk_seq ?_
    refine pk_region ?_
    refine pk_val rfl rfl rfl (val_move rfl rfl) ?_
    refine pk_eff (eff_call1 rfl ⟨_, Tryz.func85, by kernel_rfl, rfl⟩ rfl (fun E w s => keys_Valid_c s hk.cons.cons rfl (by omega))) rfl rfl rfl (fun _ _ => ?_)
    refine pk_val rfl rfl rfl (val_not rfl rfl) ?_
    refine pk_nil ?_
    refine thru_on ?_
    refine pk_ifn rfl (fun hv1 => ?_) (fun hv1 => ?_)
    · skip
      exfalso
      rw [hv] at hv1; cases hv1
    · skip
      refine pk_skip ?_
      refine thru_on ?_
      refine Pk.nilrow 30 4 ?_
      refine Pk.heap (fun _ h => Sats.cat_nil (f := slC) h) ?_
      refine pk_seq ?_
      refine pk_region ?_
      refine pk_val rfl rfl rfl (val_assign rfl rfl) ?_
      refine pk_nil ?_
      refine thru_on ?_
      refine pk_seq ?_
      refine pk_seq ?_
      refine pk_region ?_
      refine pk_val rfl rfl rfl (val_move rfl rfl) ?_
      refine pk_val rfl rfl rfl (val_len_slice rfl Tryz.underlying24 rfl) ?_
      refine pk_val rfl rfl rfl (val_move rfl rfl) ?_
      refine pk_nil ?_
      refine thru_on ?_
      refine pk_block ?_
      refine pk_loop (α := Nat × Option Addr × Nat × List Sl) ((0, none, 0, [])) (fun y => [(0, .slice A zs.length c), (5, ptr (some ⟨b5, 0, none⟩) 0), (8, .slice y.2.1 y.2.2.2.length y.2.2.1), (24, .slice B ks.length d), (25, .int .i64 (ks.length : Nat)), (26, .int .i64 (y.1 : Nat))]) (fun y => (stsC zs) :: (Eng.cat (y.2.2.2.map slC)) :: (own y.2.1 y.2.2.2.length y.2.2.1 30 4 (y.2.2.2.flatMap Sl.cells)) :: (own (some ⟨b5, 0, none⟩) 1 1 35 2 [.int .i64 b, .int .i64 e]) :: L) (fun y => y.1 ≤ ks.length ∧ sxs y.2.2.2 = firstX zs b e (ks.take y.1)) (fun y => ks.length - y.1) ?_ ?_ ?_ ?_
      · (try dsimp only) <;> exact ⟨Nat.zero_le _, rfl⟩
      · exact ⟨(Sub.cons rfl (by first | rfl | (congr 1; omega) | simp) (Sub.cons rfl (by first | rfl | (congr 1; omega) | simp) (Sub.cons rfl (by first | rfl | (congr 1; omega) | simp) (Sub.cons rfl (by first | rfl | (congr 1; omega) | simp) (Sub.cons rfl (by first | rfl | (congr 1; omega) | simp) (Sub.cons rfl (by first | rfl | (congr 1; omega) | simp) (Sub.nil _))))))), rfl⟩
      · exact (fun _ h => (Sats.pick 4 [3, 0, 1, 2] rfl h :))
      rintro ⟨k, q, d1, outs⟩ ⟨hk0, hI⟩
      dsimp only at hk0 hI ⊢
      have hol : outs.length = k := by
        have := congrArg List.length hI
        simp [sxs, firstX] at this; omega
      refine pk_seq ?_
      refine pk_region ?_
      refine pk_val rfl rfl rfl (val_lss rfl rfl rfl) ?_
      refine pk_nil ?_
      refine thru_on ?_
      refine pk_seq ?_
      refine pk_if rfl (fun h3 => ?_) (fun h3 => ?_)
      · skip
        refine pk_skip ?_
        refine thru_on ?_
        have hkk : k < ks.length := by omega
        have hmem := getD_mem emp hkk
        have hsz := hvp.2.2 _ hmem
        have hzm := homeZ_mem h1 (ks.getD k emp)
        have hlt : ofN (ks.getD k emp) zs.length < zs.length := ofN_lt _ (by omega)
        refine Pk.tells (hk.cons.cons.cons.cons.some_of (by rw [List.length_map]; omega)) fun hA => ?_
        have hko := hok _ hmem
        refine pk_seq ?_
        refine pk_block ?_
        refine pk_seq ?_
        refine pk_region ?_
        refine pk_val rfl rfl rfl (val_indexAddr rfl Tryz.underlying24 1 (by kernel_rfl) rfl rfl k rfl hkk (Ent.pure hA)) ?_
        refine pk_val rfl rfl rfl (val_load rfl Tryz.underlying9 rfl rfl (hk.cons.cons.cons.cons.rd (get_map emp hkk))) ?_
        refine pk_val rfl rfl rfl (val_assign rfl rfl) ?_
        refine pk_nil ?_
        refine thru_on ?_
        refine pk_seq ?_
        refine pk_drawk (.val 0 (.val 1 (.val 3 (.val 5 (.two 2 (.two 4 (.two 6 (.val 7 (.val 8 (.val 9 (.eff 10 (.eff 11 (.val 12 .nil)))))) 10 (.eff 6 (.val 7 (.val 8 (.val 9 (.eff 11 (.val 12 .nil))))))) 10 (.eff 4 (.eff 6 (.val 7 (.val 8 (.val 9 (.eff 11 (.val 12 .nil)))))))) 10 (.eff 2 (.eff 4 (.eff 6 (.val 7 (.val 8 (.val 9 (.eff 11 (.val 12 .nil))))))))))))) 1013 [] rfl (by kernel_rfl) (fun _ _ _ _ _ h => h) ?_
        refine ord_val rfl rfl rfl rfl (fun _ h => h) (val_move rfl rfl) ?_
        refine ord_val rfl rfl rfl rfl (fun _ h => h) (val_move rfl rfl) ?_
        refine ord_val rfl rfl rfl rfl (fun _ h => h) (val_move rfl rfl) ?_
        refine ord_val rfl rfl rfl rfl (fun _ h => h) (val_loads (vs := [.int .i64 b, .int .i64 e]) rfl Tryz.underlying35 rfl (by kernel_rfl) rfl (Ent.pure rfl) ((Ent.own 3 rfl).rds (fun j v h => by rw [Nat.zero_add j]; exact h))) ?_
        refine ord_two ?_ ?_
        · skip
          refine ord_eff (eff_call1 rfl ⟨_, Tryz.func86, by kernel_rfl, rfl⟩ rfl (fun E w s => hybrid_home_c s hr.cons.cons.cons.cons rfl h1 h2 (by omega))) rfl rfl rfl rfl (.inr fun _ _ => (fun _ h => h)) (fun _ _ => ?_)
          refine ord_two ?_ ?_
          · skip
            refine ord_eff (eff_callx rfl ⟨_, Tryz.func43, by kernel_rfl, rfl⟩ rfl (fun E w s => sts_Latest_c (k := (ks.getD k emp)) (s.to fun _ h => Sats.pull 0 rfl h) hlt hS)) rfl rfl rfl rfl (.inr fun _ _ => (fun _ h => (Sats.keep [false, true, true, true, true] h :))) (fun q35 _ => ?_)
            refine ord_two ?_ ?_
            · skip
              refine ord_eff (eff_callx rfl ⟨_, Tryz.func14, by kernel_rfl, rfl⟩ rfl (fun E w s => hybrid_Of_c (v := ⟨latA (homeZ zs (ks.getD k emp)).2.a (ks.getD k emp), q35.1, q35.2⟩) s (Ent.own 0 rfl) (by have := lat_klen (hS.small _ hzm) (ks.getD k emp); dsimp only; omega) (fun x hx => by have := (hS.keys _ hzm).lat (ks.getD k emp) x hx; omega))) rfl rfl rfl rfl (.inr fun _ _ => (fun _ h => (Sats.keep [false, false, true, true, true, true] h :))) (fun q37 _ => ?_)
              refine ord_val rfl rfl rfl rfl (fun _ h => (Sats.keep [false, false, true, true, true, true] h :)) (val_move rfl rfl) ?_
              refine ord_val rfl rfl rfl rfl (fun _ h => (Sats.keep [false, false, true, true, true, true] h :)) (val_extract rfl rfl rfl) ?_
              refine ord_val rfl rfl rfl rfl (fun _ h => (Sats.keep [false, false, true, true, true, true] h :)) (val_extract rfl rfl rfl) ?_
              refine ord_eff (eff_alloc (z := [.string ⟨#[]⟩, .int .u64 0, .string ⟨#[]⟩, .slice none 0 0]) rfl (by kernel_rfl)) rfl rfl rfl rfl (.inr fun _ _ => (fun _ h => (Sats.keep [false, false, false, true, true, true, true] h :))) (fun b11 _ => ?_)
              refine ord_eff0 (eff_storeW 0 rfl rfl rfl rfl rfl (by kernel_rfl) rfl rfl rfl) rfl rfl rfl (.inr fun _ _ => (fun _ h => (Sats.keep [false, false, false, true, true, true, true] h :))) (fun _ _ => ?_)
              refine ord_val rfl rfl rfl rfl (fun _ h => (Sats.keep [false, false, false, true, true, true, true] h :)) (val_assign rfl rfl) ?_
              refine ord_nil ?_
              refine thru_on ?_
              refine pk_seq ?_
              refine pk_seq ?_
              refine pk_region ?_
              refine pk_val rfl rfl rfl (val_move rfl rfl) ?_
              refine pk_val rfl rfl rfl (val_neq rfl rfl rfl) ?_
              refine pk_nil ?_
              refine thru_on ?_
              refine pk_if rfl (fun h4 => ?_) (fun h4 => ?_)
              · skip
                exfalso
                rw [ofE, hko] at h4; exact h4 rfl
              · skip
                refine pk_skip ?_
                refine thru_on ?_
                refine pk_region ?_
                refine pk_val rfl rfl rfl (val_move rfl rfl) ?_
                refine pk_val rfl rfl rfl (val_loads (vs := (⟨ofX (latA (homeZ zs (ks.getD k emp)).2.a (ks.getD k emp)) b e, q37.1, q37.2⟩ : Sl).cells) rfl Tryz.underlying30 rfl (by kernel_rfl) rfl (Ent.pure rfl) ((Ent.own 0 rfl).rds (fun j v h => by rw [Nat.zero_add j]; exact h))) ?_
                refine pk_eff (eff_buildSlice (len := 1) (sz := 4) (z := #[.string ⟨#[]⟩, .int .u64 0, .string ⟨#[]⟩, .slice none 0 0]) rfl Tryz.underlying43 (by kernel_rfl) rfl rfl rfl (by decide) (by decide) rfl rfl) rfl rfl rfl (fun b45 _ => ?_)
                refine pk_eff (eff_append1 (sz := 4) (bytes := 64) (z := .agg #[.string ⟨#[]⟩, .int .u64 0, .string ⟨#[]⟩, .slice none 0 0]) 6 rfl Tryz.underlying43 (by kernel_rfl) rfl (by decide) (by decide) rfl rfl rfl (Ent.own 0 rfl) (by first | rfl | (simp; done) | exact flat_length (s := 4) (fun _ => rfl) _) (by first | rfl | (simp; done)) rfl (by omega)) rfl rfl rfl (fun q46 _ => ?_)
                refine pk_val rfl rfl rfl (val_assign rfl rfl) ?_
                refine pk_nil ?_
                refine in_on ?_
                refine thru_on ?_
                refine pk_region ?_
                refine pk_val rfl rfl rfl (val_add rfl rfl rfl (by omega)) ?_
                refine pk_val rfl rfl rfl (val_move rfl rfl) ?_
                refine pk_nil ?_
                refine thru_on ?_
                refine pk_next (x := ⟨k, q, d1, outs⟩) ((k + 1, q46.1, q46.2, outs ++ [⟨ofX (latA (homeZ zs (ks.getD k emp)).2.a (ks.getD k emp)) b e, q37.1, q37.2⟩])) ?_ ?_ ?_ ?_
                · (try dsimp only) <;> exact ⟨hkk, by (try dsimp only); rw [firstX_take hkk, ← hI]; simp [sxs]⟩
                · (try dsimp only); exact (by omega)
                · exact ⟨(Sub.cons rfl (by first | rfl | (congr 1; omega) | simp) (Sub.cons rfl (by first | rfl | (congr 1; omega) | simp) (Sub.cons rfl (by simp) (Sub.cons rfl (by first | rfl | (congr 1; omega) | simp) (Sub.cons rfl (by first | rfl | (congr 1; omega) | simp) (Sub.cons rfl (by first | rfl | (congr 1; omega) | simp) (Sub.nil _))))))), rfl⟩
                · exact (fun _ h => by (try dsimp only); rw [List.flatMap_append, List.length_append]; exact Sats.swap (Sats.cat_snoc (f := slC) (y := (⟨ofX (latA (homeZ zs (ks.getD k emp)).2.a (ks.getD k emp)) b e, q37.1, q37.2⟩ : Sl)) ((Sats.pick 8 [2, 5, 4, 6, 7] rfl h :))))
            · skip
              refine ord_eff (eff_alloc (z := [.string ⟨#[]⟩, .int .u64 0, .string ⟨#[]⟩, .slice none 0 0]) rfl (by kernel_rfl)) rfl rfl rfl rfl (.inr fun _ _ => (fun _ h => (Sats.keep [false, false, true, true, true, true] h :))) (fun b11 _ => ?_)
              refine ord_eff (eff_callx rfl ⟨_, Tryz.func14, by kernel_rfl, rfl⟩ rfl (fun E w s => hybrid_Of_c (v := ⟨latA (homeZ zs (ks.getD k emp)).2.a (ks.getD k emp), q35.1, q35.2⟩) s (Ent.own 1 rfl) (by have := lat_klen (hS.small _ hzm) (ks.getD k emp); dsimp only; omega) (fun x hx => by have := (hS.keys _ hzm).lat (ks.getD k emp) x hx; omega))) rfl rfl rfl rfl (.inr fun _ _ => (fun _ h => (Sats.keep [false, false, false, true, true, true, true] h :))) (fun q37 _ => ?_)
              refine ord_val rfl rfl rfl rfl (fun _ h => (Sats.keep [false, false, false, true, true, true, true] h :)) (val_move rfl rfl) ?_
              refine ord_val rfl rfl rfl rfl (fun _ h => (Sats.keep [false, false, false, true, true, true, true] h :)) (val_extract rfl rfl rfl) ?_
              refine ord_val rfl rfl rfl rfl (fun _ h => (Sats.keep [false, false, false, true, true, true, true] h :)) (val_extract rfl rfl rfl) ?_
              refine ord_eff0 (eff_storeW 1 rfl rfl rfl rfl rfl (by kernel_rfl) rfl rfl rfl) rfl rfl rfl (.inr fun _ _ => (fun _ h => (Sats.keep [false, false, false, true, true, true, true] h :))) (fun _ _ => ?_)
              refine ord_val rfl rfl rfl rfl (fun _ h => (Sats.keep [false, false, false, true, true, true, true] h :)) (val_assign rfl rfl) ?_
              refine ord_nil ?_
              refine thru_on ?_
              refine pk_seq ?_
              refine pk_seq ?_
              refine pk_region ?_
              refine pk_val rfl rfl rfl (val_move rfl rfl) ?_
              refine pk_val rfl rfl rfl (val_neq rfl rfl rfl) ?_
              refine pk_nil ?_
              refine thru_on ?_
              refine pk_if rfl (fun h4 => ?_) (fun h4 => ?_)
              · skip
                exfalso
                rw [ofE, hko] at h4; exact h4 rfl
              · skip
                refine pk_skip ?_
                refine thru_on ?_
                refine pk_region ?_
                refine pk_val rfl rfl rfl (val_move rfl rfl) ?_
                refine pk_val rfl rfl rfl (val_loads (vs := (⟨ofX (latA (homeZ zs (ks.getD k emp)).2.a (ks.getD k emp)) b e, q37.1, q37.2⟩ : Sl).cells) rfl Tryz.underlying30 rfl (by kernel_rfl) rfl (Ent.pure rfl) ((Ent.own 1 rfl).rds (fun j v h => by rw [Nat.zero_add j]; exact h))) ?_
                refine pk_eff (eff_buildSlice (len := 1) (sz := 4) (z := #[.string ⟨#[]⟩, .int .u64 0, .string ⟨#[]⟩, .slice none 0 0]) rfl Tryz.underlying43 (by kernel_rfl) rfl rfl rfl (by decide) (by decide) rfl rfl) rfl rfl rfl (fun b45 _ => ?_)
                refine pk_eff (eff_append1 (sz := 4) (bytes := 64) (z := .agg #[.string ⟨#[]⟩, .int .u64 0, .string ⟨#[]⟩, .slice none 0 0]) 6 rfl Tryz.underlying43 (by kernel_rfl) rfl (by decide) (by decide) rfl rfl rfl (Ent.own 0 rfl) (by first | rfl | (simp; done) | exact flat_length (s := 4) (fun _ => rfl) _) (by first | rfl | (simp; done)) rfl (by omega)) rfl rfl rfl (fun q46 _ => ?_)
                refine pk_val rfl rfl rfl (val_assign rfl rfl) ?_
                refine pk_nil ?_
                refine in_on ?_
                refine thru_on ?_
                refine pk_region ?_
                refine pk_val rfl rfl rfl (val_add rfl rfl rfl (by omega)) ?_
                refine pk_val rfl rfl rfl (val_move rfl rfl) ?_
                refine pk_nil ?_
                refine thru_on ?_
                refine pk_next (x := ⟨k, q, d1, outs⟩) ((k + 1, q46.1, q46.2, outs ++ [⟨ofX (latA (homeZ zs (ks.getD k emp)).2.a (ks.getD k emp)) b e, q37.1, q37.2⟩])) ?_ ?_ ?_ ?_
                · (try dsimp only) <;> exact ⟨hkk, by (try dsimp only); rw [firstX_take hkk, ← hI]; simp [sxs]⟩
                · (try dsimp only); exact (by omega)
                · exact ⟨(Sub.cons rfl (by first | rfl | (congr 1; omega) | simp) (Sub.cons rfl (by first | rfl | (congr 1; omega) | simp) (Sub.cons rfl (by simp) (Sub.cons rfl (by first | rfl | (congr 1; omega) | simp) (Sub.cons rfl (by first | rfl | (congr 1; omega) | simp) (Sub.cons rfl (by first | rfl | (congr 1; omega) | simp) (Sub.nil _))))))), rfl⟩
                · exact (fun _ h => by (try dsimp only); rw [List.flatMap_append, List.length_append]; exact Sats.swap (Sats.cat_snoc (f := slC) (y := (⟨ofX (latA (homeZ zs (ks.getD k emp)).2.a (ks.getD k emp)) b e, q37.1, q37.2⟩ : Sl)) ((Sats.pick 8 [1, 5, 4, 6, 7] rfl h :))))
          · skip
            refine ord_eff (eff_alloc (z := [.string ⟨#[]⟩, .int .u64 0, .string ⟨#[]⟩, .slice none 0 0]) rfl (by kernel_rfl)) rfl rfl rfl rfl (.inr fun _ _ => (fun _ h => (Sats.keep [false, true, true, true, true] h :))) (fun b11 _ => ?_)
            refine ord_eff (eff_callx rfl ⟨_, Tryz.func43, by kernel_rfl, rfl⟩ rfl (fun E w s => sts_Latest_c (k := (ks.getD k emp)) (s.to fun _ h => Sats.pull 1 rfl h) hlt hS)) rfl rfl rfl rfl (.inr fun _ _ => (fun _ h => (Sats.keep [false, true, false, true, true, true] h :))) (fun q35 _ => ?_)
            refine ord_eff (eff_callx rfl ⟨_, Tryz.func14, by kernel_rfl, rfl⟩ rfl (fun E w s => hybrid_Of_c (v := ⟨latA (homeZ zs (ks.getD k emp)).2.a (ks.getD k emp), q35.1, q35.2⟩) s (Ent.own 0 rfl) (by have := lat_klen (hS.small _ hzm) (ks.getD k emp); dsimp only; omega) (fun x hx => by have := (hS.keys _ hzm).lat (ks.getD k emp) x hx; omega))) rfl rfl rfl rfl (.inr fun _ _ => (fun _ h => (Sats.keep [false, false, true, false, true, true, true] h :))) (fun q37 _ => ?_)
            refine ord_val rfl rfl rfl rfl (fun _ h => (Sats.keep [false, false, true, false, true, true, true] h :)) (val_move rfl rfl) ?_
            refine ord_val rfl rfl rfl rfl (fun _ h => (Sats.keep [false, false, true, false, true, true, true] h :)) (val_extract rfl rfl rfl) ?_
            refine ord_val rfl rfl rfl rfl (fun _ h => (Sats.keep [false, false, true, false, true, true, true] h :)) (val_extract rfl rfl rfl) ?_
            refine ord_eff0 (eff_storeW 3 rfl rfl rfl rfl rfl (by kernel_rfl) rfl rfl rfl) rfl rfl rfl (.inr fun _ _ => (fun _ h => (Sats.keep [false, false, true, false, true, true, true] h :))) (fun _ _ => ?_)
            refine ord_val rfl rfl rfl rfl (fun _ h => (Sats.keep [false, false, true, false, true, true, true] h :)) (val_assign rfl rfl) ?_
            refine ord_nil ?_
            refine thru_on ?_
            refine pk_seq ?_
            refine pk_seq ?_
            refine pk_region ?_
            refine pk_val rfl rfl rfl (val_move rfl rfl) ?_
            refine pk_val rfl rfl rfl (val_neq rfl rfl rfl) ?_
            refine pk_nil ?_
            refine thru_on ?_
            refine pk_if rfl (fun h4 => ?_) (fun h4 => ?_)
            · skip
              exfalso
              rw [ofE, hko] at h4; exact h4 rfl
            · skip
              refine pk_skip ?_
              refine thru_on ?_
              refine pk_region ?_
              refine pk_val rfl rfl rfl (val_move rfl rfl) ?_
              refine pk_val rfl rfl rfl (val_loads (vs := (⟨ofX (latA (homeZ zs (ks.getD k emp)).2.a (ks.getD k emp)) b e, q37.1, q37.2⟩ : Sl).cells) rfl Tryz.underlying30 rfl (by kernel_rfl) rfl (Ent.pure rfl) ((Ent.own 3 rfl).rds (fun j v h => by rw [Nat.zero_add j]; exact h))) ?_
              refine pk_eff (eff_buildSlice (len := 1) (sz := 4) (z := #[.string ⟨#[]⟩, .int .u64 0, .string ⟨#[]⟩, .slice none 0 0]) rfl Tryz.underlying43 (by kernel_rfl) rfl rfl rfl (by decide) (by decide) rfl rfl) rfl rfl rfl (fun b45 _ => ?_)
              refine pk_eff (eff_append1 (sz := 4) (bytes := 64) (z := .agg #[.string ⟨#[]⟩, .int .u64 0, .string ⟨#[]⟩, .slice none 0 0]) 6 rfl Tryz.underlying43 (by kernel_rfl) rfl (by decide) (by decide) rfl rfl rfl (Ent.own 0 rfl) (by first | rfl | (simp; done) | exact flat_length (s := 4) (fun _ => rfl) _) (by first | rfl | (simp; done)) rfl (by omega)) rfl rfl rfl (fun q46 _ => ?_)
              refine pk_val rfl rfl rfl (val_assign rfl rfl) ?_
              refine pk_nil ?_
              refine in_on ?_
              refine thru_on ?_
              refine pk_region ?_
              refine pk_val rfl rfl rfl (val_add rfl rfl rfl (by omega)) ?_
              refine pk_val rfl rfl rfl (val_move rfl rfl) ?_
              refine pk_nil ?_
              refine thru_on ?_
              refine pk_next (x := ⟨k, q, d1, outs⟩) ((k + 1, q46.1, q46.2, outs ++ [⟨ofX (latA (homeZ zs (ks.getD k emp)).2.a (ks.getD k emp)) b e, q37.1, q37.2⟩])) ?_ ?_ ?_ ?_
              · (try dsimp only) <;> exact ⟨hkk, by (try dsimp only); rw [firstX_take hkk, ← hI]; simp [sxs]⟩
              · (try dsimp only); exact (by omega)
              · exact ⟨(Sub.cons rfl (by first | rfl | (congr 1; omega) | simp) (Sub.cons rfl (by first | rfl | (congr 1; omega) | simp) (Sub.cons rfl (by simp) (Sub.cons rfl (by first | rfl | (congr 1; omega) | simp) (Sub.cons rfl (by first | rfl | (congr 1; omega) | simp) (Sub.cons rfl (by first | rfl | (congr 1; omega) | simp) (Sub.nil _))))))), rfl⟩
              · exact (fun _ h => by (try dsimp only); rw [List.flatMap_append, List.length_append]; exact Sats.swap (Sats.cat_snoc (f := slC) (y := (⟨ofX (latA (homeZ zs (ks.getD k emp)).2.a (ks.getD k emp)) b e, q37.1, q37.2⟩ : Sl)) ((Sats.pick 8 [1, 5, 3, 6, 7] rfl h :))))
        · skip
          refine ord_eff (eff_alloc (z := [.string ⟨#[]⟩, .int .u64 0, .string ⟨#[]⟩, .slice none 0 0]) rfl (by kernel_rfl)) rfl rfl rfl rfl (.inr fun _ _ => (fun _ h => (Sats.keep [false, true, true, true, true] h :))) (fun b11 _ => ?_)
          refine ord_eff (eff_call1 rfl ⟨_, Tryz.func86, by kernel_rfl, rfl⟩ rfl (fun E w s => hybrid_home_c s hr.cons.cons.cons.cons.cons rfl h1 h2 (by omega))) rfl rfl rfl rfl (.inr fun _ _ => (fun _ h => (Sats.keep [false, true, true, true, true] h :))) (fun _ _ => ?_)
          refine ord_eff (eff_callx rfl ⟨_, Tryz.func43, by kernel_rfl, rfl⟩ rfl (fun E w s => sts_Latest_c (k := (ks.getD k emp)) (s.to fun _ h => Sats.pull 1 rfl h) hlt hS)) rfl rfl rfl rfl (.inr fun _ _ => (fun _ h => (Sats.keep [false, true, false, true, true, true] h :))) (fun q35 _ => ?_)
          refine ord_eff (eff_callx rfl ⟨_, Tryz.func14, by kernel_rfl, rfl⟩ rfl (fun E w s => hybrid_Of_c (v := ⟨latA (homeZ zs (ks.getD k emp)).2.a (ks.getD k emp), q35.1, q35.2⟩) s (Ent.own 0 rfl) (by have := lat_klen (hS.small _ hzm) (ks.getD k emp); dsimp only; omega) (fun x hx => by have := (hS.keys _ hzm).lat (ks.getD k emp) x hx; omega))) rfl rfl rfl rfl (.inr fun _ _ => (fun _ h => (Sats.keep [false, false, true, false, true, true, true] h :))) (fun q37 _ => ?_)
          refine ord_val rfl rfl rfl rfl (fun _ h => (Sats.keep [false, false, true, false, true, true, true] h :)) (val_move rfl rfl) ?_
          refine ord_val rfl rfl rfl rfl (fun _ h => (Sats.keep [false, false, true, false, true, true, true] h :)) (val_extract rfl rfl rfl) ?_
          refine ord_val rfl rfl rfl rfl (fun _ h => (Sats.keep [false, false, true, false, true, true, true] h :)) (val_extract rfl rfl rfl) ?_
          refine ord_eff0 (eff_storeW 3 rfl rfl rfl rfl rfl (by kernel_rfl) rfl rfl rfl) rfl rfl rfl (.inr fun _ _ => (fun _ h => (Sats.keep [false, false, true, false, true, true, true] h :))) (fun _ _ => ?_)
          refine ord_val rfl rfl rfl rfl (fun _ h => (Sats.keep [false, false, true, false, true, true, true] h :)) (val_assign rfl rfl) ?_
          refine ord_nil ?_
          refine thru_on ?_
          refine pk_seq ?_
          refine pk_seq ?_
          refine pk_region ?_
          refine pk_val rfl rfl rfl (val_move rfl rfl) ?_
          refine pk_val rfl rfl rfl (val_neq rfl rfl rfl) ?_
          refine pk_nil ?_
          refine thru_on ?_
          refine pk_if rfl (fun h4 => ?_) (fun h4 => ?_)
          · skip
            exfalso
            rw [ofE, hko] at h4; exact h4 rfl
          · skip
            refine pk_skip ?_
            refine thru_on ?_
            refine pk_region ?_
            refine pk_val rfl rfl rfl (val_move rfl rfl) ?_
            refine pk_val rfl rfl rfl (val_loads (vs := (⟨ofX (latA (homeZ zs (ks.getD k emp)).2.a (ks.getD k emp)) b e, q37.1, q37.2⟩ : Sl).cells) rfl Tryz.underlying30 rfl (by kernel_rfl) rfl (Ent.pure rfl) ((Ent.own 3 rfl).rds (fun j v h => by rw [Nat.zero_add j]; exact h))) ?_
            refine pk_eff (eff_buildSlice (len := 1) (sz := 4) (z := #[.string ⟨#[]⟩, .int .u64 0, .string ⟨#[]⟩, .slice none 0 0]) rfl Tryz.underlying43 (by kernel_rfl) rfl rfl rfl (by decide) (by decide) rfl rfl) rfl rfl rfl (fun b45 _ => ?_)
            refine pk_eff (eff_append1 (sz := 4) (bytes := 64) (z := .agg #[.string ⟨#[]⟩, .int .u64 0, .string ⟨#[]⟩, .slice none 0 0]) 6 rfl Tryz.underlying43 (by kernel_rfl) rfl (by decide) (by decide) rfl rfl rfl (Ent.own 0 rfl) (by first | rfl | (simp; done) | exact flat_length (s := 4) (fun _ => rfl) _) (by first | rfl | (simp; done)) rfl (by omega)) rfl rfl rfl (fun q46 _ => ?_)
            refine pk_val rfl rfl rfl (val_assign rfl rfl) ?_
            refine pk_nil ?_
            refine in_on ?_
            refine thru_on ?_
            refine pk_region ?_
            refine pk_val rfl rfl rfl (val_add rfl rfl rfl (by omega)) ?_
            refine pk_val rfl rfl rfl (val_move rfl rfl) ?_
            refine pk_nil ?_
            refine thru_on ?_
            refine pk_next (x := ⟨k, q, d1, outs⟩) ((k + 1, q46.1, q46.2, outs ++ [⟨ofX (latA (homeZ zs (ks.getD k emp)).2.a (ks.getD k emp)) b e, q37.1, q37.2⟩])) ?_ ?_ ?_ ?_
            · (try dsimp only) <;> exact ⟨hkk, by (try dsimp only); rw [firstX_take hkk, ← hI]; simp [sxs]⟩
            · (try dsimp only); exact (by omega)
            · exact ⟨(Sub.cons rfl (by first | rfl | (congr 1; omega) | simp) (Sub.cons rfl (by first | rfl | (congr 1; omega) | simp) (Sub.cons rfl (by simp) (Sub.cons rfl (by first | rfl | (congr 1; omega) | simp) (Sub.cons rfl (by first | rfl | (congr 1; omega) | simp) (Sub.cons rfl (by first | rfl | (congr 1; omega) | simp) (Sub.nil _))))))), rfl⟩
            · exact (fun _ h => by (try dsimp only); rw [List.flatMap_append, List.length_append]; exact Sats.swap (Sats.cat_snoc (f := slC) (y := (⟨ofX (latA (homeZ zs (ks.getD k emp)).2.a (ks.getD k emp)) b e, q37.1, q37.2⟩ : Sl)) ((Sats.pick 8 [1, 5, 3, 6, 7] rfl h :))))
      · skip
        refine pk_exit ?_
        refine thru ?_
        refine thru ?_
        refine pk_here ?_
        refine thru_on ?_
        refine pk_seq ?_
        refine pk_region ?_
        refine pk_val rfl rfl rfl (val_move rfl rfl) ?_
        refine pk_val rfl rfl rfl (val_assign rfl rfl) ?_
        refine pk_val rfl rfl rfl (val_assign rfl rfl) ?_
        refine pk_nil ?_
        refine thru_on ?_
        refine pk_ret ?_
        have hkk : k = ks.length := by omega
        refine ret2 rfl rfl rfl fun w s => ⟨(q, d1, outs), ?_, rfl, s.to (fun _ h => (Sats.pick 4 [2, 1, 0] rfl h :))⟩
        dsimp only; rw [hI, hkk, List.take_length]
end Go.Proofs.YtdpckendkklfdaaGreat
