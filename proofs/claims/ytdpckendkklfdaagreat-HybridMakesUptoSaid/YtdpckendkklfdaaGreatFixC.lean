/- The walks of package fix, third part: Formed. -/
import Derived.Test.YtdpckendkklfdaaGreatFixB
set_option linter.unusedVariables false
set_option linter.unusedSimpArgs false
set_option maxRecDepth 100000
namespace Go.Proofs.YtdpckendkklfdaaGreat
open Go.RowKit Go.Proofs.Eng
def formedGo : List Av → List Av → Bool
  | _, [] => true
  | pre, v :: r => mayB v && !memB (pre.map (·.key)) v.key && (match pre.find? (fun u => decide (u.id = v.id)) with | none => true | some u => decide (u.keys = v.keys)) && formedGo (pre ++ [v]) r
def formedB (l : List Av) : Bool := decide (1 ≤ l.length) && decide (l.length ≤ 1024) && formedGo [] l
def avs (vs : List Ver) : List Av := vs.map (·.a)
theorem avs_drop {vs : List Ver} {k : Nat} (h : k < vs.length) : (avs vs).drop k = (vs.getD k dV).a :: (avs vs).drop (k + 1) := by
  have : k < (avs vs).length := by simpa [avs] using h
  rw [List.drop_eq_getElem_cons this]
  simp [avs, h]
theorem avs_take {vs : List Ver} {k : Nat} (h : k < vs.length) : (avs vs).take (k + 1) = (avs vs).take k ++ [(vs.getD k dV).a] := by
  have : k < (avs vs).length := by simpa [avs] using h
  rw [List.take_succ_eq_append_getElem this]
  simp [avs, h]
/-- what the two maps hold behind k rounds -/
structure FormedInv (l : List Av) (k : Nat) (l1 : List (ByteArray × Int)) (l2 : List (Int × Int)) : Prop where
  le : k ≤ l.length
  keys : ∀ s, aget l1 s 0 = if memB ((l.take k).map (·.key)) s then 1 else 0
  ids : ∀ z, match (l.take k).find? (fun u => decide (u.id = z)) with
    | none => ahas l2 z = false
    | some u => ahas l2 z = true ∧ ∃ i : Nat, i < k ∧ aget l2 z 0 = (i : Int) ∧ l[i]? = some u
  go : formedGo [] l = formedGo (l.take k) (l.drop k)
theorem FormedInv.start (l : List Av) : FormedInv l 0 [] [] := ⟨Nat.zero_le _, fun s => by simp [aget, memB], fun z => by simp [ahas], by simp⟩
theorem memB_snoc (l : List ByteArray) (x y : ByteArray) : memB (l ++ [x]) y = (memB l y || decide (x = y)) := by simp [memB]
theorem FormedInv.next {vs : List Ver} {k : Nat} {l1 : List (ByteArray × Int)} {l2 l2' : List (Int × Int)} (h : FormedInv (avs vs) k l1 l2) (hk : k < vs.length) (hm : mayB (vs.getD k dV).a = true) (hn : memB (((avs vs).take k).map (·.key)) (vs.getD k dV).a.key = false)
    (hu : match ((avs vs).take k).find? (fun u => decide (u.id = (vs.getD k dV).a.id)) with | none => l2' = aput l2 (vs.getD k dV).a.id (k : Int) | some u => l2' = l2 ∧ u.keys = (vs.getD k dV).a.keys) :
    FormedInv (avs vs) (k + 1) (aput l1 (vs.getD k dV).a.key (aget l1 (vs.getD k dV).a.key 0 + 1)) l2' := by
  refine ⟨by simp [avs]; omega, fun s => ?_, fun z => ?_, ?_⟩
  · rw [avs_take hk, List.map_append, List.map_cons, List.map_nil, memB_snoc]
    by_cases e : s = (vs.getD k dV).a.key
    · subst e
      rw [aget_aput_same, h.keys, hn]
      simp
    · rw [aget_aput_other _ _ _ e, h.keys]
      have : ¬ (vs.getD k dV).a.key = s := fun h => e h.symm
      simp only [this, decide_false, Bool.or_false]
  · rw [avs_take hk, List.find?_append]
    have hz := h.ids z
    by_cases e : (vs.getD k dV).a.id = z
    · subst e
      cases hf : ((avs vs).take k).find? (fun u => decide (u.id = (vs.getD k dV).a.id)) with
      | none =>
        rw [hf] at hu
        simp only at hu
        subst hu
        simp only [Option.none_or, List.find?_cons, decide_true]
        exact ⟨ahas_aput_same _ _ _, k, by omega, aget_aput_same _ _ _ _, by simp [avs, hk]⟩
      | some u =>
        rw [hf] at hu hz
        simp only at hu hz
        obtain ⟨rfl, _⟩ := hu
        obtain ⟨h1, i, h2, h3, h4⟩ := hz
        exact ⟨h1, i, by omega, h3, h4⟩
    · have hnew : l2' = l2 ∨ l2' = aput l2 (vs.getD k dV).a.id (k : Int) := by
        cases hf : ((avs vs).take k).find? (fun u => decide (u.id = (vs.getD k dV).a.id)) with
        | none => rw [hf] at hu; exact .inr hu
        | some u => rw [hf] at hu; exact .inl hu.1
      have hne : z ≠ (vs.getD k dV).a.id := fun h => e h.symm
      cases hf : ((avs vs).take k).find? (fun u => decide (u.id = z)) with
      | none =>
        rw [hf] at hz
        simp only [Option.none_or, List.find?_cons, e, decide_false, List.find?_nil] at hz ⊢
        rcases hnew with rfl | rfl
        · exact hz
        · rw [ahas_aput_other _ _ hne]; exact hz
      | some u =>
        rw [hf] at hz
        simp only [Option.some_or] at hz ⊢
        obtain ⟨h1, i, h2, h3, h4⟩ := hz
        rcases hnew with rfl | rfl
        · exact ⟨h1, i, by omega, h3, h4⟩
        · exact ⟨by rw [ahas_aput_other _ _ hne]; exact h1, i, by omega, by rw [aget_aput_other _ _ _ hne]; exact h3, h4⟩
  · rw [h.go, avs_drop hk, formedGo, hm, hn, avs_take hk]
    have : (match ((avs vs).take k).find? (fun u => decide (u.id = (vs.getD k dV).a.id)) with | none => true | some u => decide (u.keys = (vs.getD k dV).a.keys)) = true := by
      cases hf : ((avs vs).take k).find? (fun u => decide (u.id = (vs.getD k dV).a.id)) with
      | none => rfl
      | some u => rw [hf] at hu; simp [hu.2]
    rw [this]
    simp
theorem FormedInv.no_may {vs : List Ver} {k : Nat} {l1 : List (ByteArray × Int)} {l2 : List (Int × Int)} (h : FormedInv (avs vs) k l1 l2) (hk : k < vs.length) (hm : mayB (vs.getD k dV).a = false) : formedB (avs vs) = false := by
  unfold formedB
  rw [h.go, avs_drop hk, formedGo, hm]; simp
theorem FormedInv.no_key {vs : List Ver} {k : Nat} {l1 : List (ByteArray × Int)} {l2 : List (Int × Int)} (h : FormedInv (avs vs) k l1 l2) (hk : k < vs.length) (hm : memB (((avs vs).take k).map (·.key)) (vs.getD k dV).a.key = true) : formedB (avs vs) = false := by
  unfold formedB
  rw [h.go, avs_drop hk, formedGo, hm]; simp
theorem FormedInv.no_keys {vs : List Ver} {k : Nat} {l1 : List (ByteArray × Int)} {l2 : List (Int × Int)} (h : FormedInv (avs vs) k l1 l2) (hk : k < vs.length) {u : Av} (hf : ((avs vs).take k).find? (fun u => decide (u.id = (vs.getD k dV).a.id)) = some u) (hne : ¬ u.keys = (vs.getD k dV).a.keys) : formedB (avs vs) = false := by
  unfold formedB
  rw [h.go, avs_drop hk, formedGo, hf]
  have e : decide (u.keys = (vs.getD k dV).a.keys) = false := decide_eq_false hne
  simp only [e, Bool.and_false, Bool.false_and]
theorem FormedInv.done {l : List Av} {k : Nat} {l1 : List (ByteArray × Int)} {l2 : List (Int × Int)} (h : FormedInv l k l1 l2) (hk : l.length ≤ k) : formedGo [] l = true := by
  have : k = l.length := by have := h.le; omega
  rw [h.go, this]; simp [formedGo]
/-- the second map's answer -/
theorem FormedInv.there {l : List Av} {k : Nat} {l1 : List (ByteArray × Int)} {l2 : List (Int × Int)} (h : FormedInv l k l1 l2) {z : Int} (hz : ahas l2 z = true) : ∃ (u : Av) (i : Nat), (l.take k).find? (fun u => decide (u.id = z)) = some u ∧ i < k ∧ aget l2 z 0 = (i : Int) ∧ l[i]? = some u := by
  have := h.ids z
  cases hf : (l.take k).find? (fun u => decide (u.id = z)) with
  | none => rw [hf] at this; simp only at this; rw [hz] at this; cases this
  | some u => rw [hf] at this; obtain ⟨_, i, h1, h2, h3⟩ := this; exact ⟨u, i, rfl, h1, h2, h3⟩
theorem FormedInv.notthere {l : List Av} {k : Nat} {l1 : List (ByteArray × Int)} {l2 : List (Int × Int)} (h : FormedInv l k l1 l2) {z : Int} (hz : ahas l2 z = false) : (l.take k).find? (fun u => decide (u.id = z)) = none := by
  have := h.ids z
  cases hf : (l.take k).find? (fun u => decide (u.id = z)) with
  | none => rfl
  | some u => rw [hf] at this; rw [hz] at this; cases this.1
abbrev encS : ByteArray → Value := fun s => .string s
abbrev encU : Int → Value := fun z => .int .u64 z
abbrev encI : Int → Value := fun z => .int .i64 z
theorem fix_Formed_c {E w : World} {L : List Ch} {A : Option Addr} {c : Nat} {vs : List Ver} (s : Sat E w L) (hV : VerIn L A vs) :
    Calls Tryz.prog 98 #[.slice A vs.length c] w (Gives E (.bool (formedB (avs vs))) L) := by
  refine enter (vs := [_]) Tryz.func98 rfl Tryz.ntmps98 rfl s ?_
  refine pk_seq ?_
  refine pk_region ?_
  refine pk_val rfl rfl rfl (val_assign rfl rfl) ?_
  refine pk_nil ?_
  refine thru_on ?_
  refine pk_seq ?_
  refine pk_seq ?_
  refine pk_region ?_
  refine pk_val rfl rfl rfl (val_move rfl rfl) ?_
  refine pk_val rfl rfl rfl (val_len_slice rfl Tryz.underlying84 rfl) ?_
  refine pk_val rfl rfl rfl (val_lss rfl rfl rfl) ?_
  refine pk_val rfl rfl rfl (val_move rfl rfl) ?_
  by_cases h0 : vs.length < 1
  · skip
    refine Pk.slot 12 (v := .bool true) rfl (by simp <;> omega) ?_
    refine pk_guard_no rfl rfl rfl rfl rfl rfl ?_
    refine pk_guard_no rfl rfl rfl rfl rfl rfl ?_
    refine pk_guard_no rfl rfl rfl rfl rfl rfl ?_
    refine pk_val rfl rfl rfl (val_pick rfl rfl rfl rfl) ?_
    refine pk_nil ?_
    refine thru_on ?_
    refine pk_cond_t rfl ?_
    refine pk_seq ?_
    refine pk_region ?_
    refine pk_val rfl rfl rfl (val_assign rfl rfl) ?_
    refine pk_nil ?_
    refine thru_on ?_
    refine pk_ret ?_
    refine thru_ret ?_
    refine ret1 rfl rfl fun w s => ⟨?_, s⟩
    have e : formedB (avs vs) = false := by unfold formedB; simp [avs] <;> omega
    rw [e]
  · skip
    refine Pk.slot 12 (v := .bool false) rfl (by simp <;> omega) ?_
    refine pk_guard_yes rfl rfl rfl ?_
    refine pk_val rfl rfl rfl (val_move rfl rfl) ?_
    refine pk_guard_yes rfl rfl rfl ?_
    refine pk_val rfl rfl rfl (val_len_slice rfl Tryz.underlying84 rfl) ?_
    refine pk_guard_yes rfl rfl rfl ?_
    refine pk_val rfl rfl rfl (val_gtr rfl rfl rfl) ?_
    refine pk_val rfl rfl rfl (val_pick rfl rfl rfl rfl) ?_
    refine pk_nil ?_
    refine thru_on ?_
    refine pk_if rfl (fun h1 => ?_) (fun h1 => ?_)
    · skip
      refine pk_seq ?_
      refine pk_region ?_
      refine pk_val rfl rfl rfl (val_assign rfl rfl) ?_
      refine pk_nil ?_
      refine thru_on ?_
      refine pk_ret ?_
      refine thru_ret ?_
      refine ret1 rfl rfl fun w s => ⟨?_, s⟩
      have e : formedB (avs vs) = false := by unfold formedB; simp [avs] <;> omega
      rw [e]
    · skip
      refine pk_skip ?_
      refine thru_on ?_
      refine pk_seq ?_
      refine pk_region ?_
      refine pk_eff (eff_mapNew (encS) (encI) rfl) rfl rfl rfl (fun bm3 _ => ?_)
      refine pk_val rfl rfl rfl (val_assign rfl rfl) ?_
      refine pk_nil ?_
      refine thru_on ?_
      refine pk_seq ?_
      refine pk_region ?_
      refine pk_eff (eff_mapNew (encU) (encI) rfl) rfl rfl rfl (fun bm4 _ => ?_)
      refine pk_val rfl rfl rfl (val_assign rfl rfl) ?_
      refine pk_nil ?_
      refine thru_on ?_
      refine pk_seq ?_
      refine pk_seq ?_
      refine pk_region ?_
      refine pk_val rfl rfl rfl (val_move rfl rfl) ?_
      refine pk_val rfl rfl rfl (val_len_slice rfl Tryz.underlying84 rfl) ?_
      refine pk_val rfl rfl rfl (val_move rfl rfl) ?_
      refine pk_nil ?_
      refine thru_on ?_
      refine pk_block ?_
      refine pk_loop (α := Nat × List (ByteArray × Int) × List (Int × Int)) ((0, [], [])) (fun y => [(3, .map (some bm3)), (4, .map (some bm4)), (19, .slice A vs.length c), (0, .slice A vs.length c), (20, .int .i64 (vs.length : Nat)), (21, .int .i64 (y.1 : Nat))]) (fun y => (mapc (some bm4) encU encI y.2.2) :: (mapc (some bm3) encS encI y.2.1) :: L) (fun y => FormedInv (avs vs) y.1 y.2.1 y.2.2) (fun y => vs.length - y.1) ?_ ?_ ?_ ?_
      · (try dsimp only) <;> exact FormedInv.start _
      · exact ⟨(Sub.cons rfl (by first | rfl | (congr 1; omega) | simp) (Sub.cons rfl (by first | rfl | (congr 1; omega) | simp) (Sub.cons rfl (by first | rfl | (congr 1; omega) | simp) (Sub.cons rfl (by first | rfl | (congr 1; omega) | simp) (Sub.cons rfl (by first | rfl | (congr 1; omega) | simp) (Sub.cons rfl (by first | rfl | (congr 1; omega) | simp) (Sub.nil _))))))), rfl⟩
      · exact (fun _ h => h)
      rintro ⟨k, l1, l2⟩ hI
      dsimp only at hI ⊢
      have hlen := hV.len
      refine pk_seq ?_
      refine pk_region ?_
      refine pk_val rfl rfl rfl (val_lss rfl rfl rfl) ?_
      refine pk_nil ?_
      refine thru_on ?_
      refine pk_seq ?_
      refine pk_if rfl (fun h2 => ?_) (fun h2 => ?_)
      · skip
        refine pk_skip ?_
        refine thru_on ?_
        have hk : k < vs.length := by omega
        refine Pk.tells (hV.cons.cons.rows.some_of (by rw [flat_length Ver.cells_len]; omega)) fun hA => ?_
        have hmem := getD_mem dV hk
        refine pk_seq ?_
        refine pk_block ?_
        refine pk_seq ?_
        refine pk_region ?_
        refine pk_val rfl rfl rfl (val_move rfl rfl) ?_
        refine pk_val rfl rfl rfl (val_indexAddr rfl Tryz.underlying84 4 (by kernel_rfl) rfl rfl k rfl hk (Ent.pure hA)) ?_
        refine pk_val rfl rfl rfl (val_loads (vs := (vs.getD k dV).cells) rfl Tryz.underlying26 rfl (by kernel_rfl) rfl (Ent.pure hA) (hV.cons.cons.rows.rds (flat_rds Ver.cells_len dV hk))) ?_
        refine pk_eff (eff_alloc (z := [.string ⟨#[]⟩, .int .u64 0, .string ⟨#[]⟩, .slice none 0 0]) rfl (by kernel_rfl)) rfl rfl rfl (fun b6 _ => ?_)
        refine pk_val rfl rfl rfl (val_assign rfl rfl) ?_
        refine pk_eff0 (eff_storeW 0 rfl rfl rfl rfl rfl (by kernel_rfl) rfl rfl rfl) rfl rfl (fun _ _ => ?_)
        refine pk_nil ?_
        refine thru_on ?_
        refine pk_seq ?_
        refine pk_region ?_
        refine pk_val rfl rfl rfl (val_move rfl rfl) ?_
        refine pk_val rfl rfl rfl (val_fieldAddr rfl Tryz.underlying26 0 1 (by kernel_rfl) (by decide) rfl (Ent.pure rfl)) ?_
        refine pk_val rfl rfl rfl (val_load rfl Tryz.underlying9 rfl rfl ((Ent.own 0 rfl).rd rfl)) ?_
        refine pk_val rfl rfl rfl (val_lookup (0) rfl Tryz.underlying249 (keyOk_string Tryz.underlying9) (by kernel_rfl) rfl rfl rfl (Ent.map 2 rfl)) ?_
        refine pk_val rfl rfl rfl (val_add rfl rfl rfl (by rw [hI.keys]; split <;> omega)) ?_
        refine pk_eff0 (eff_mapUpdate 2 (aget l1 (vs.getD k dV).a.key 0 + 1) rfl Tryz.underlying249 (keyOk_string Tryz.underlying9) rfl rfl rfl rfl) rfl rfl (fun _ _ => ?_)
        refine pk_nil ?_
        refine thru_on ?_
        refine pk_seq ?_
        refine pk_seq ?_
        refine pk_region ?_
        refine pk_val rfl rfl rfl (val_loads rfl Tryz.underlying26 rfl (by kernel_rfl) rfl (Ent.pure rfl) ((Ent.own 0 rfl).rds (fun j v h => by rw [Nat.zero_add j]; exact h))) ?_
        refine pk_eff (eff_call1 rfl ⟨_, Tryz.func174, by kernel_rfl, rfl⟩ rfl (fun E w s => fix_may_c s (hV.cons.cons.cons.keys _ hmem) (hV.klen _ hmem))) rfl rfl rfl (fun _ _ => ?_)
        refine pk_val rfl rfl rfl (val_not rfl rfl) ?_
        refine pk_val rfl rfl rfl (val_move rfl rfl) ?_
        by_cases hm : mayB (vs.getD k dV).a = true
        · skip
          refine Pk.slot 34 (v := .bool false) rfl (by rw [hm]; rfl) ?_
          refine pk_guard_yes rfl rfl rfl ?_
          refine pk_val rfl rfl rfl (val_move rfl rfl) ?_
          refine pk_guard_yes rfl rfl rfl ?_
          refine pk_val rfl rfl rfl (val_fieldAddr rfl Tryz.underlying26 0 1 (by kernel_rfl) (by decide) rfl (Ent.pure rfl)) ?_
          refine pk_guard_yes rfl rfl rfl ?_
          refine pk_val rfl rfl rfl (val_load rfl Tryz.underlying9 rfl rfl ((Ent.own 0 rfl).rd rfl)) ?_
          refine pk_guard_yes rfl rfl rfl ?_
          refine pk_val rfl rfl rfl (val_lookup (0) rfl Tryz.underlying249 (keyOk_string Tryz.underlying9) (by kernel_rfl) rfl rfl rfl (Ent.map 2 rfl)) ?_
          refine pk_guard_yes rfl rfl rfl ?_
          refine pk_val rfl rfl rfl (val_gtr rfl rfl rfl) ?_
          refine pk_val rfl rfl rfl (val_pick rfl rfl rfl rfl) ?_
          refine pk_nil ?_
          refine thru_on ?_
          refine pk_if rfl (fun h5 => ?_) (fun h5 => ?_)
          · skip
            have hB : memB (((avs vs).take k).map (·.key)) (vs.getD k dV).a.key = true := by
              rw [aget_aput_same, hI.keys] at h5
              split at h5
              · assumption
              · simp at h5
            refine pk_seq ?_
            refine pk_region ?_
            refine pk_val rfl rfl rfl (val_assign rfl rfl) ?_
            refine pk_nil ?_
            refine thru_on ?_
            refine pk_ret ?_
            refine thru_ret ?_
            refine in_ret ?_
            refine thru_ret ?_
            refine thru_ret ?_
            refine in_ret ?_
            refine thru_ret ?_
            refine ret1 rfl rfl fun w s => ⟨?_, s.to fun _ h => Sats.app (A := [_, _, _]) h⟩
            rw [hI.no_key hk hB]
          · skip
            refine pk_skip ?_
            refine thru_on ?_
            have hN : memB (((avs vs).take k).map (·.key)) (vs.getD k dV).a.key = false := by
              rw [aget_aput_same, hI.keys] at h5
              split at h5
              · simp at h5
              · rename_i hb; simpa using hb
            refine pk_seq ?_
            refine pk_region ?_
            refine pk_val rfl rfl rfl (val_move rfl rfl) ?_
            refine pk_val rfl rfl rfl (val_fieldAddr rfl Tryz.underlying26 1 1 (by kernel_rfl) (by decide) rfl (Ent.pure rfl)) ?_
            refine pk_val rfl rfl rfl (val_load rfl Tryz.underlying23 rfl rfl ((Ent.own 0 rfl).rd rfl)) ?_
            refine pk_val rfl rfl rfl (val_lookup_ok (0) rfl Tryz.underlying264 (keyOk_int Tryz.underlying23) (by kernel_rfl) rfl rfl rfl (Ent.map 1 rfl)) ?_
            refine pk_val rfl rfl rfl (val_move rfl rfl) ?_
            refine pk_val rfl rfl rfl (val_extract rfl rfl rfl) ?_
            refine pk_val rfl rfl rfl (val_extract rfl rfl rfl) ?_
            refine pk_val rfl rfl rfl (val_assign rfl rfl) ?_
            refine pk_val rfl rfl rfl (val_assign rfl rfl) ?_
            refine pk_nil ?_
            refine thru_on ?_
            refine pk_seq ?_
            refine pk_region ?_
            refine pk_val rfl rfl rfl (val_move rfl rfl) ?_
            refine pk_val rfl rfl rfl (val_not rfl rfl) ?_
            refine pk_nil ?_
            refine thru_on ?_
            refine pk_ifn rfl (fun h6 => ?_) (fun h6 => ?_)
            · skip
              refine pk_region ?_
              refine pk_val rfl rfl rfl (val_move rfl rfl) ?_
              refine pk_val rfl rfl rfl (val_fieldAddr rfl Tryz.underlying26 1 1 (by kernel_rfl) (by decide) rfl (Ent.pure rfl)) ?_
              refine pk_val rfl rfl rfl (val_load rfl Tryz.underlying23 rfl rfl ((Ent.own 0 rfl).rd rfl)) ?_
              refine pk_val rfl rfl rfl (val_move rfl rfl) ?_
              refine pk_eff0 (eff_mapUpdate 1 ((k : Int)) rfl Tryz.underlying264 (keyOk_int Tryz.underlying23) rfl rfl rfl rfl) rfl rfl (fun _ _ => ?_)
              refine pk_nil ?_
              refine in_on ?_
              refine thru_on ?_
              refine pk_region ?_
              refine pk_val rfl rfl rfl (val_add rfl rfl rfl (by omega)) ?_
              refine pk_val rfl rfl rfl (val_move rfl rfl) ?_
              refine pk_nil ?_
              refine thru_on ?_
              refine pk_next (x := ⟨k, l1, l2⟩) ((k + 1, aput l1 (vs.getD k dV).a.key (aget l1 (vs.getD k dV).a.key 0 + 1), aput l2 (vs.getD k dV).a.id (k : Int))) ?_ ?_ ?_ ?_
              · (try dsimp only) <;> exact hI.next hk hm hN (by rw [hI.notthere h6])
              · (try dsimp only); exact (by omega)
              · exact ⟨(Sub.cons rfl (by first | rfl | (congr 1; omega) | simp) (Sub.cons rfl (by first | rfl | (congr 1; omega) | simp) (Sub.cons rfl (by first | rfl | (congr 1; omega) | simp) (Sub.cons rfl (by first | rfl | (congr 1; omega) | simp) (Sub.cons rfl (by first | rfl | (congr 1; omega) | simp) (Sub.cons rfl (by first | rfl | (congr 1; omega) | simp) (Sub.nil _))))))), rfl⟩
              · exact (fun _ h => Sats.keep [false, true, true] h)
            · skip
              obtain ⟨u, i, hf, hik, hgi, hli⟩ := hI.there h6
              have hi : i < vs.length := by omega
              have hu : u = (vs.getD i dV).a := by simpa [avs, hi] using hli.symm
              have himem := getD_mem dV hi
              refine pk_seq ?_
              refine pk_drawk (.val 0 (.val 1 (.val 2 (.val 3 (.val 4 (.val 5 (.val 6 (.eff 7 (.val 8 .nil))))))))) 1009 [] rfl (by kernel_rfl) (fun _ _ _ _ _ h => h) ?_
              refine ord_val rfl rfl rfl rfl (fun _ h => h) (val_move rfl rfl) ?_
              refine ord_val rfl rfl rfl rfl (fun _ h => h) (val_move rfl rfl) ?_
              refine ord_val rfl rfl rfl rfl (fun _ h => h) (val_indexAddr rfl Tryz.underlying84 4 (by kernel_rfl) rfl rfl i hgi hi (Ent.pure hA)) ?_
              refine ord_val rfl rfl rfl rfl (fun _ h => h) (val_fieldAddr rfl Tryz.underlying26 3 1 (by kernel_rfl) (by decide) rfl (Ent.pure (by first | rfl | assumption))) ?_
              refine ord_val rfl rfl rfl rfl (fun _ h => h) (val_load rfl Tryz.underlying24 rfl rfl (hV.cons.cons.cons.rows.rd ((get_flat Ver.cells_len dV hi (by decide)).trans rfl))) ?_
              refine ord_val rfl rfl rfl rfl (fun _ h => h) (val_fieldAddr rfl Tryz.underlying26 3 1 (by kernel_rfl) (by decide) rfl (Ent.pure rfl)) ?_
              refine ord_val rfl rfl rfl rfl (fun _ h => h) (val_load rfl Tryz.underlying24 rfl rfl ((Ent.own 0 rfl).rd rfl)) ?_
              refine ord_eff (eff_call1 rfl ⟨_, Tryz.func175, by kernel_rfl, rfl⟩ rfl (fun E w s => slices_Equal_string_c s (hV.cons.cons.cons.keys _ himem) (hV.cons.cons.cons.keys _ hmem) (hV.klen _ himem))) rfl rfl rfl rfl (.inr fun _ _ => (fun _ h => h)) (fun _ _ => ?_)
              refine ord_val rfl rfl rfl rfl (fun _ h => h) (val_not rfl rfl) ?_
              refine ord_nil ?_
              refine thru_on ?_
              refine pk_ifn rfl (fun h7 => ?_) (fun h7 => ?_)
              · skip
                have hne : ¬ u.keys = (vs.getD k dV).a.keys := by rw [hu]; simpa using h7
                refine pk_seq ?_
                refine pk_region ?_
                refine pk_val rfl rfl rfl (val_assign rfl rfl) ?_
                refine pk_nil ?_
                refine thru_on ?_
                refine pk_ret ?_
                refine in_ret ?_
                refine thru_ret ?_
                refine thru_ret ?_
                refine in_ret ?_
                refine thru_ret ?_
                refine ret1 rfl rfl fun w s => ⟨?_, s.to fun _ h => Sats.app (A := [_, _, _]) h⟩
                rw [hI.no_keys hk hf hne]
              · skip
                refine pk_skip ?_
                refine in_on ?_
                refine thru_on ?_
                have heq : u.keys = (vs.getD k dV).a.keys := by rw [hu]; simpa using h7
                refine pk_region ?_
                refine pk_val rfl rfl rfl (val_add rfl rfl rfl (by omega)) ?_
                refine pk_val rfl rfl rfl (val_move rfl rfl) ?_
                refine pk_nil ?_
                refine thru_on ?_
                refine pk_next (x := ⟨k, l1, l2⟩) ((k + 1, aput l1 (vs.getD k dV).a.key (aget l1 (vs.getD k dV).a.key 0 + 1), l2)) ?_ ?_ ?_ ?_
                · (try dsimp only) <;> exact hI.next hk hm hN (by rw [hf]; exact ⟨rfl, heq⟩)
                · (try dsimp only); exact (by omega)
                · exact ⟨(Sub.cons rfl (by first | rfl | (congr 1; omega) | simp) (Sub.cons rfl (by first | rfl | (congr 1; omega) | simp) (Sub.cons rfl (by first | rfl | (congr 1; omega) | simp) (Sub.cons rfl (by first | rfl | (congr 1; omega) | simp) (Sub.cons rfl (by first | rfl | (congr 1; omega) | simp) (Sub.cons rfl (by first | rfl | (congr 1; omega) | simp) (Sub.nil _))))))), rfl⟩
                · exact (fun _ h => Sats.keep [false, true, true] h)
        · skip
          have hm' : mayB (vs.getD k dV).a = false := by simpa using hm
          refine Pk.slot 34 (v := .bool true) rfl (by rw [hm']; rfl) ?_
          refine pk_guard_no rfl rfl rfl rfl rfl rfl ?_
          refine pk_guard_no rfl rfl rfl rfl rfl rfl ?_
          refine pk_guard_no rfl rfl rfl rfl rfl rfl ?_
          refine pk_guard_no rfl rfl rfl rfl rfl rfl ?_
          refine pk_guard_no rfl rfl rfl rfl rfl rfl ?_
          refine pk_val rfl rfl rfl (val_pick rfl rfl rfl rfl) ?_
          refine pk_nil ?_
          refine thru_on ?_
          refine pk_cond_t rfl ?_
          refine pk_seq ?_
          refine pk_region ?_
          refine pk_val rfl rfl rfl (val_assign rfl rfl) ?_
          refine pk_nil ?_
          refine thru_on ?_
          refine pk_ret ?_
          refine thru_ret ?_
          refine in_ret ?_
          refine thru_ret ?_
          refine thru_ret ?_
          refine in_ret ?_
          refine thru_ret ?_
          refine ret1 rfl rfl fun w s => ⟨?_, s.to fun _ h => Sats.app (A := [_, _, _]) h⟩
          rw [hI.no_may hk hm']
      · skip
        refine pk_exit ?_
        refine thru ?_
        refine thru ?_
        refine pk_here ?_
        refine thru_on ?_
        refine pk_seq ?_
        refine pk_region ?_
        refine pk_val rfl rfl rfl (val_assign rfl rfl) ?_
        refine pk_nil ?_
        refine thru_on ?_
        refine pk_ret ?_
        refine ret1 rfl rfl fun w s => ⟨?_, s.to fun _ h => Sats.app (A := [_, _]) h⟩
        have e : formedB (avs vs) = true := by
          unfold formedB
          rw [hI.done (by simp [avs] <;> omega)]
          simp [avs] <;> omega
        rw [e]
end Go.Proofs.YtdpckendkklfdaaGreat
