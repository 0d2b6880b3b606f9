/- The walks of package hybrid, fourth part: Needs and Second where nothing is asked for. -/
import Derived.Test.YtdpckendkklfdaaGreatHyC
set_option linter.unusedVariables false
set_option linter.unusedSimpArgs false
set_option maxRecDepth 100000
namespace Go.Proofs.YtdpckendkklfdaaGreat
open Go.RowKit Go.Proofs.Eng
/-- may the write of u have the key of y, and is it newer? -/
def askB (u y : Sx) : Bool := filHas u && decide (y.id < u.id) && hasT (u.f.drop 5) (rdB u.f) (rdH u.f) y.key
def noAsk (l : List Sx) : Prop := ∀ u ∈ l, ∀ y ∈ l, askB u y = false
theorem filHas_read {y : Sx} (h : filHas y = true) : readOk y.f = true := by
  simp only [filHas, Bool.and_eq_true, decide_eq_true_eq] at h
  have h1 := h.1
  rw [filOk_pos h.2] at h1
  simp only [Bool.and_eq_true] at h1
  exact h1.1.2
theorem fi_in_cat {L : List Ch} {zs : List Fz} {j : Nat} (i : Nat) (e : L[i]? = some (Eng.cat (zs.map filC))) (hj : j < zs.length) (h : filHas (zs.getD j dFz).1 = true) : FiIn L (zs.getD j dFz).2.1 (zs.getD j dFz).fi := by
  have ex : zs[j]? = some (zs.getD j dFz) := by simp [hj]
  have hf : ∀ h, filC (zs.getD j dFz) h → fiCh (zs.getD j dFz).2.1 (zs.getD j dFz).fi h := fun hp o => by rw [filC, if_pos h] at o; exact o
  refine ⟨Ent.cat i e ex (fun hp o => ?_) (fun _ _ l r => r.mono l), Ent.cat i e ex (fun hp o => ?_) (fun _ _ l r => r.mono l)⟩
  · have s : Sats [fiCh (zs.getD j dFz).2.1 (zs.getD j dFz).fi] hp := ⟨hp, fun _ => none, Le.refl _, (fun _ _ e => by cases e), (fun _ => .inr rfl), hf _ o, trivial⟩
    exact (fi_in (L := [fiCh (zs.getD j dFz).2.1 (zs.getD j dFz).fi]) 0 rfl).box hp s
  · have s : Sats [fiCh (zs.getD j dFz).2.1 (zs.getD j dFz).fi] hp := ⟨hp, fun _ => none, Le.refl _, (fun _ _ e => by cases e), (fun _ => .inr rfl), hf _ o, trivial⟩
    exact (fi_in (L := [fiCh (zs.getD j dFz).2.1 (zs.getD j dFz).fi]) 0 rfl).row hp s
theorem zs_at {vs : List Sl} {zs : List Fz} (h : zs.map (·.1) = sxs vs) {j : Nat} (hj : j < vs.length) : (zs.getD j dFz).1 = (vs.getD j dSl).a := by
  have e := congrArg (fun l => l[j]?) h
  have hz : zs.length = vs.length := by have := congrArg List.length h; simpa [sxs] using this
  simp [sxs, hj, hz] at e ⊢
  exact e
theorem formedX_len {l : List Sx} (h : formedX l = true) : 1 ≤ l.length ∧ l.length ≤ 1024 := by
  simp only [formedX, Bool.and_eq_true, decide_eq_true_eq] at h; exact h.1
theorem fo_yes {l : List Sx} {zs : List Fz} (h : formedX l = true) : fo l zs = zs := by rw [fo, if_pos h]
theorem sxs_mem {vs : List Sl} {v : Sl} (h : v ∈ vs) : v.a ∈ sxs vs := List.mem_map_of_mem h
theorem hybrid_Needs_no {E w : World} {L : List Ch} {A : Option Addr} {c : Nat} {vs : List Sl} (s : Sat E w L) (hV : SlimsIn L A vs) (hf : formedX (sxs vs) = false) :
    Calls Tryz.prog 20 #[.slice A vs.length c] w (Gives E (.tuple #[.slice none 0 0, .int .i64 1]) L) := by
  refine enter (vs := [_]) Tryz.func20 rfl Tryz.ntmps20 rfl s ?_
  refine pk_seq ?_
  refine pk_region ?_
  refine pk_val rfl rfl rfl (val_assign rfl rfl) ?_
  refine pk_val rfl rfl rfl (val_assign rfl rfl) ?_
  refine pk_nil ?_
  refine thru_on ?_
  refine pk_seq ?_
  refine pk_region ?_
  refine pk_val rfl rfl rfl (val_move rfl rfl) ?_
  refine pk_eff (eff_callx rfl ⟨_, Tryz.func74, by kernel_rfl, rfl⟩ rfl (fun E w s => hybrid_filters_c s hV)) rfl rfl rfl (fun q14 hq14 => ?_)
  refine pk_val rfl rfl rfl (val_move rfl rfl) ?_
  refine pk_val rfl rfl rfl (val_extract rfl rfl rfl) ?_
  refine pk_val rfl rfl rfl (val_extract rfl rfl rfl) ?_
  refine pk_val rfl rfl rfl (val_assign rfl rfl) ?_
  refine pk_val rfl rfl rfl (val_assign rfl rfl) ?_
  refine pk_nil ?_
  refine thru_on ?_
  refine pk_seq ?_
  refine pk_seq ?_
  refine pk_region ?_
  refine pk_val rfl rfl rfl (val_move rfl rfl) ?_
  refine pk_val rfl rfl rfl (val_not rfl rfl) ?_
  refine pk_nil ?_
  refine thru_on ?_
  refine pk_ifn rfl (fun h1 => ?_) (fun h1 => ?_)
  · skip
    refine pk_seq ?_
    refine pk_region ?_
    refine pk_val rfl rfl rfl (val_assign rfl rfl) ?_
    refine pk_val rfl rfl rfl (val_assign rfl rfl) ?_
    refine pk_nil ?_
    refine thru_on ?_
    refine pk_ret ?_
    refine thru_ret ?_
    refine ret2 rfl rfl rfl fun w s => ⟨rfl, s.to (fun _ h => Sats.keep [false, false] h)⟩
  · skip
    exfalso
    rw [hf] at h1; cases h1
theorem hybrid_Needs_none {E w : World} {L : List Ch} {A : Option Addr} {c : Nat} {vs : List Sl} (s : Sat E w L) (hV : SlimsIn L A vs) (hf : formedX (sxs vs) = true) (hno : noAsk (sxs vs)) :
    Calls Tryz.prog 20 #[.slice A vs.length c] w (Gives E (.tuple #[.slice none 0 0, .int .i64 0]) L) := by
  refine enter (vs := [_]) Tryz.func20 rfl Tryz.ntmps20 rfl s ?_
  refine pk_seq ?_
  refine pk_region ?_
  refine pk_val rfl rfl rfl (val_assign rfl rfl) ?_
  refine pk_val rfl rfl rfl (val_assign rfl rfl) ?_
  refine pk_nil ?_
  refine thru_on ?_
  refine pk_seq ?_
  refine pk_region ?_
  refine pk_val rfl rfl rfl (val_move rfl rfl) ?_
  refine pk_eff (eff_callx rfl ⟨_, Tryz.func74, by kernel_rfl, rfl⟩ rfl (fun E w s => hybrid_filters_c s hV)) rfl rfl rfl (fun q14 hq14 => ?_)
  refine pk_val rfl rfl rfl (val_move rfl rfl) ?_
  refine pk_val rfl rfl rfl (val_extract rfl rfl rfl) ?_
  refine pk_val rfl rfl rfl (val_extract rfl rfl rfl) ?_
  refine pk_val rfl rfl rfl (val_assign rfl rfl) ?_
  refine pk_val rfl rfl rfl (val_assign rfl rfl) ?_
  refine pk_nil ?_
  refine thru_on ?_
  refine pk_seq ?_
  refine pk_seq ?_
  refine pk_region ?_
  refine pk_val rfl rfl rfl (val_move rfl rfl) ?_
  refine pk_val rfl rfl rfl (val_not rfl rfl) ?_
  refine pk_nil ?_
  refine thru_on ?_
  refine pk_ifn rfl (fun h1 => ?_) (fun h1 => ?_)
  · skip
    exfalso
    rw [hf] at h1; cases h1
  · skip
    refine pk_skip ?_
    refine thru_on ?_
    obtain ⟨q, d, zs⟩ := q14
    dsimp only at hq14
    have hfo : fo (sxs vs) zs = zs := fo_yes hf
    dsimp only
    rw [hfo]
    have hzl : zs.length = vs.length := by have := congrArg List.length hq14; simpa [sxs] using this
    rw [hzl]
    have hvl := formedX_len hf
    have hvl2 : vs.length ≤ 1024 := by have := hvl.2; simpa [sxs] using this
    refine pk_seq ?_
    refine pk_region ?_
    refine pk_val rfl rfl rfl (val_assign rfl rfl) ?_
    refine pk_nil ?_
    refine thru_on ?_
    refine pk_seq ?_
    refine pk_seq ?_
    refine pk_region ?_
    refine pk_val rfl rfl rfl (val_move rfl rfl) ?_
    refine pk_val rfl rfl rfl (val_len_slice rfl Tryz.underlying43 rfl) ?_
    refine pk_val rfl rfl rfl (val_move rfl rfl) ?_
    refine pk_nil ?_
    refine thru_on ?_
    refine pk_block ?_
    refine pk_loop (α := Nat) (0) (fun k => [(0, .slice A vs.length c), (4, .slice q vs.length d), (19, .slice A vs.length c), (20, .int .i64 (vs.length : Nat)), (6, .slice none 0 0), (21, .int .i64 (k : Nat))]) (fun k => (own q vs.length d 140 1 (zs.map filP)) :: (Eng.cat (zs.map filC)) :: L) (fun k => k ≤ vs.length) (fun k => vs.length - k) ?_ ?_ ?_ ?_
    · (try dsimp only) <;> exact Nat.zero_le _
    · exact ⟨(Sub.cons rfl (by first | rfl | (congr 1; omega) | simp) (Sub.cons rfl (by first | rfl | (congr 1; omega) | simp) (Sub.cons rfl (by first | rfl | (congr 1; omega) | simp) (Sub.cons rfl (by first | rfl | (congr 1; omega) | simp) (Sub.cons rfl (by first | rfl | (congr 1; omega) | simp) (Sub.cons rfl (by first | rfl | (congr 1; omega) | simp) (Sub.nil _))))))), rfl⟩
    · exact (fun _ h => h)
    rintro k hk0
    refine pk_seq ?_
    refine pk_region ?_
    refine pk_val rfl rfl rfl (val_lss rfl rfl rfl) ?_
    refine pk_nil ?_
    refine thru_on ?_
    refine pk_seq ?_
    refine pk_if rfl (fun h2 => ?_) (fun h2 => ?_)
    · skip
      refine pk_skip ?_
      refine thru_on ?_
      have hk : k < vs.length := by omega
      refine Pk.tells (hV.cons.cons.rows.some_of (by rw [flat_length Sl.cells_len]; omega)) fun hA => ?_
      have hmem := getD_mem dSl hk
      refine pk_seq ?_
      refine pk_block ?_
      refine pk_seq ?_
      refine pk_region ?_
      refine pk_val rfl rfl rfl (val_indexAddr rfl Tryz.underlying43 4 (by kernel_rfl) rfl rfl k rfl hk (Ent.pure hA)) ?_
      refine pk_val rfl rfl rfl (val_loads (vs := (vs.getD k dSl).cells) rfl Tryz.underlying30 rfl (by kernel_rfl) rfl (Ent.pure hA) (hV.cons.cons.rows.rds (flat_rds Sl.cells_len dSl hk))) ?_
      refine pk_eff (eff_alloc (z := [.string ⟨#[]⟩, .int .u64 0, .string ⟨#[]⟩, .slice none 0 0]) rfl (by kernel_rfl)) rfl rfl rfl (fun b8 _ => ?_)
      refine pk_eff0 (eff_storeW 0 rfl rfl rfl rfl rfl (by kernel_rfl) rfl rfl rfl) rfl rfl (fun _ _ => ?_)
      refine pk_nil ?_
      refine thru_on ?_
      refine pk_seq ?_
      refine pk_region ?_
      refine pk_val rfl rfl rfl (val_assign rfl rfl) ?_
      refine pk_nil ?_
      refine thru_on ?_
      refine pk_seq ?_
      refine pk_seq ?_
      refine pk_region ?_
      refine pk_val rfl rfl rfl (val_move rfl rfl) ?_
      refine pk_val rfl rfl rfl (val_len_slice rfl Tryz.underlying150 rfl) ?_
      refine pk_val rfl rfl rfl (val_move rfl rfl) ?_
      refine pk_nil ?_
      refine thru_on ?_
      refine pk_block ?_
      refine pk_loop (α := Nat) (0) (fun i => [(0, .slice A vs.length c), (4, .slice q vs.length d), (19, .slice A vs.length c), (20, .int .i64 (vs.length : Nat)), (6, .slice none 0 0), (21, .int .i64 (k : Nat)), (8, ptr (some ⟨b8, 0, none⟩) 0), (9, .slice none 0 0), (25, .slice q vs.length d), (26, .int .i64 (vs.length : Nat)), (27, .int .i64 (i : Nat))]) (fun i => (own (some ⟨b8, 0, none⟩) 1 1 30 4 (vs.getD k dSl).cells) :: (own q vs.length d 140 1 (zs.map filP)) :: (Eng.cat (zs.map filC)) :: L) (fun i => i ≤ vs.length) (fun i => vs.length - i) ?_ ?_ ?_ ?_
      · (try dsimp only) <;> exact Nat.zero_le _
      · exact ⟨(Sub.cons rfl (by first | rfl | (congr 1; omega) | simp) (Sub.cons rfl (by first | rfl | (congr 1; omega) | simp) (Sub.cons rfl (by first | rfl | (congr 1; omega) | simp) (Sub.cons rfl (by first | rfl | (congr 1; omega) | simp) (Sub.cons rfl (by first | rfl | (congr 1; omega) | simp) (Sub.cons rfl (by first | rfl | (congr 1; omega) | simp) (Sub.cons rfl (by first | rfl | (congr 1; omega) | simp) (Sub.cons rfl (by first | rfl | (congr 1; omega) | simp) (Sub.cons rfl (by first | rfl | (congr 1; omega) | simp) (Sub.cons rfl (by first | rfl | (congr 1; omega) | simp) (Sub.cons rfl (by first | rfl | (congr 1; omega) | simp) (Sub.nil _)))))))))))), rfl⟩
      · exact (fun _ h => h)
      rintro i hi0
      refine pk_seq ?_
      refine pk_region ?_
      refine pk_val rfl rfl rfl (val_lss rfl rfl rfl) ?_
      refine pk_nil ?_
      refine thru_on ?_
      refine pk_seq ?_
      refine pk_if rfl (fun h3 => ?_) (fun h3 => ?_)
      · skip
        refine pk_skip ?_
        refine thru_on ?_
        have hi : i < vs.length := by omega
        have himem := getD_mem dSl hi
        have hz1 := zs_at hq14 hi
        refine Pk.tells ((Ent.own 1 rfl).some_of (by rw [List.length_map]; omega)) fun hQ => ?_
        refine pk_seq ?_
        refine pk_block ?_
        refine pk_seq ?_
        refine pk_region ?_
        refine pk_val rfl rfl rfl (val_move rfl rfl) ?_
        refine pk_val rfl rfl rfl (val_indexAddr rfl Tryz.underlying150 1 (by kernel_rfl) rfl rfl i rfl hi (Ent.pure hQ)) ?_
        refine pk_val rfl rfl rfl (val_load (v := filP (zs.getD i dFz)) rfl Tryz.underlying140 rfl rfl ((Ent.own 1 rfl).rd (get_map dFz (by omega)))) ?_
        refine pk_val rfl rfl rfl (val_assign rfl rfl) ?_
        refine pk_val rfl rfl rfl (val_assign rfl rfl) ?_
        refine pk_nil ?_
        refine thru_on ?_
        refine pk_seq ?_
        refine pk_drawk (.val 0 (.val 1 (.val 2 (.val 3 (.val 4 (.val 5 (.val 6 (.val 7 (.val 8 (.val 9 (.val 10 (.val 11 (.val 12 (.val 13 (.val 14 (.val 15 (.eff 16 (.val 17 .nil)))))))))))))))))) 1018 [] rfl (by kernel_rfl) (fun _ _ _ _ _ h => h) ?_
        refine ord_val rfl rfl rfl rfl (fun _ h => h) (val_move rfl rfl) ?_
        refine ord_val rfl rfl rfl rfl (fun _ h => h) (val_pnil_neq (a := if filHas (zs.getD i dFz).1 = true then some ⟨(zs.getD i dFz).2.1, 0, none⟩ else none) (b := none) rfl Tryz.underlying140 (by simp only [ev, filP]; split <;> rfl) rfl (.inr rfl)) ?_
        refine ord_val rfl rfl rfl rfl (fun _ h => h) (val_move rfl rfl) ?_
        by_cases hfh : filHas (vs.getD i dSl).a = true
        · skip
          have hzi : filHas (zs.getD i dFz).1 = true := by rw [hz1]; exact hfh
          have hpi := filP_yes hzi
          refine Pk.slot 34 (v := .bool true) rfl (by rw [if_pos hzi]; rfl) ?_
          refine ord_val_yes rfl rfl rfl rfl rfl rfl (fun _ h => h) (val_move rfl rfl) ?_
          refine ord_val_yes rfl rfl rfl rfl rfl rfl (fun _ h => h) (val_move rfl rfl) ?_
          refine ord_val_yes rfl rfl rfl rfl rfl rfl (fun _ h => h) (val_indexAddr rfl Tryz.underlying43 4 (by kernel_rfl) rfl rfl i rfl hi (Ent.pure hA)) ?_
          refine ord_val_yes rfl rfl rfl rfl rfl rfl (fun _ h => h) (val_fieldAddr rfl Tryz.underlying30 1 1 (by kernel_rfl) (by decide) rfl (Ent.pure (by first | rfl | assumption))) ?_
          refine ord_val_yes rfl rfl rfl rfl rfl rfl (fun _ h => h) (val_load rfl Tryz.underlying23 rfl rfl (hV.cons.cons.cons.rows.rd ((get_flat Sl.cells_len dSl hi (by decide)).trans rfl))) ?_
          refine ord_val_yes rfl rfl rfl rfl rfl rfl (fun _ h => h) (val_fieldAddr rfl Tryz.underlying30 1 1 (by kernel_rfl) (by decide) rfl (Ent.pure rfl)) ?_
          refine ord_val_yes rfl rfl rfl rfl rfl rfl (fun _ h => h) (val_load (v := .int .u64 (vs.getD k dSl).a.id) rfl Tryz.underlying23 rfl rfl ((Ent.own 0 rfl).rd rfl)) ?_
          refine ord_val_yes rfl rfl rfl rfl rfl rfl (fun _ h => h) (val_gtr rfl rfl rfl) ?_
          refine ord_val rfl rfl rfl rfl (fun _ h => h) (val_pick rfl rfl rfl rfl) ?_
          refine ord_val rfl rfl rfl rfl (fun _ h => h) (val_move rfl rfl) ?_
          by_cases hid : (vs.getD k dSl).a.id < (vs.getD i dSl).a.id
          · skip
            refine Pk.slot 44 (v := .bool true) rfl (congrArg Value.bool (decide_eq_true hid)) ?_
            have hask : askB (vs.getD i dSl).a (vs.getD k dSl).a = hasT ((vs.getD i dSl).a.f.drop 5) (rdB (vs.getD i dSl).a.f) (rdH (vs.getD i dSl).a.f) (vs.getD k dSl).a.key := by rw [askB, hfh, decide_eq_true hid]; rfl
            refine ord_val_yes rfl rfl rfl rfl rfl rfl (fun _ h => h) (val_move rfl rfl) ?_
            refine Pk.slot 45 (v := ptr (some ⟨(zs.getD i dFz).2.1, 0, none⟩) 0) rfl hpi ?_
            refine ord_val_yes rfl rfl rfl rfl rfl rfl (fun _ h => h) (val_fieldAddr rfl Tryz.underlying30 0 1 (by kernel_rfl) (by decide) rfl (Ent.pure rfl)) ?_
            refine ord_val_yes rfl rfl rfl rfl rfl rfl (fun _ h => h) (val_load (v := .string (vs.getD k dSl).a.key) rfl Tryz.underlying9 rfl rfl ((Ent.own 0 rfl).rd rfl)) ?_
            refine ord_eff_yes (eff_call1 rfl ⟨_, Tryz.func75, by kernel_rfl, rfl⟩ rfl (fun E w s => bloom_Has_c s (by rw [Fz.fi, hz1]; exact readOk_fi (hV.each _ himem).byt (filHas_read hfh) _ _) (fi_in_cat 2 rfl (by omega) hzi) (hV.each _ hmem).klen)) rfl rfl rfl rfl rfl rfl (.inr fun _ _ => (fun _ h => h)) (fun _ _ => ?_)
            refine ord_val rfl rfl rfl rfl (fun _ h => h) (val_pick rfl rfl rfl rfl) ?_
            refine ord_nil ?_
            refine thru_on ?_
            refine pk_ifb rfl (fun h5 => ?_) (fun h5 => ?_)
            · skip
              exfalso
              have h6 := hno _ (sxs_mem himem) _ (sxs_mem hmem)
              rw [hask] at h6
              first | (simp only [Fz.fi, hz1] at h5; rw [h6] at h5; cases h5) | cases h5
            · skip
              refine pk_skip ?_
              refine in_on ?_
              refine thru_on ?_
              refine pk_region ?_
              refine pk_val rfl rfl rfl (val_add rfl rfl rfl (by omega)) ?_
              refine pk_val rfl rfl rfl (val_move rfl rfl) ?_
              refine pk_nil ?_
              refine thru_on ?_
              refine pk_next (x := i) (i + 1) ?_ ?_ ?_ ?_
              · (try dsimp only) <;> exact hi
              · (try dsimp only); exact (by omega)
              · exact ⟨(Sub.cons rfl (by first | rfl | (congr 1; omega) | simp) (Sub.cons rfl (by first | rfl | (congr 1; omega) | simp) (Sub.cons rfl (by first | rfl | (congr 1; omega) | simp) (Sub.cons rfl (by first | rfl | (congr 1; omega) | simp) (Sub.cons rfl (by first | rfl | (congr 1; omega) | simp) (Sub.cons rfl (by first | rfl | (congr 1; omega) | simp) (Sub.cons rfl (by first | rfl | (congr 1; omega) | simp) (Sub.cons rfl (by first | rfl | (congr 1; omega) | simp) (Sub.cons rfl (by first | rfl | (congr 1; omega) | simp) (Sub.cons rfl (by first | rfl | (congr 1; omega) | simp) (Sub.cons rfl (by first | rfl | (congr 1; omega) | simp) (Sub.nil _)))))))))))), rfl⟩
              · exact (fun _ h => h)
          · skip
            refine Pk.slot 44 (v := .bool false) rfl (congrArg Value.bool (decide_eq_false hid)) ?_
            have hask : askB (vs.getD i dSl).a (vs.getD k dSl).a = false := by rw [askB, hfh, decide_eq_false hid]; rfl
            refine ord_val_no rfl rfl rfl rfl rfl rfl rfl (fun _ h => h) ?_
            refine ord_val_no rfl rfl rfl rfl rfl rfl rfl (fun _ h => h) ?_
            refine ord_val_no rfl rfl rfl rfl rfl rfl rfl (fun _ h => h) ?_
            refine ord_eff_no rfl rfl rfl rfl rfl rfl rfl (fun _ h => h) ?_
            refine ord_val rfl rfl rfl rfl (fun _ h => h) (val_pick rfl rfl rfl rfl) ?_
            refine ord_nil ?_
            refine thru_on ?_
            refine pk_ifb rfl (fun h5 => ?_) (fun h5 => ?_)
            · skip
              exfalso
              have h6 := hno _ (sxs_mem himem) _ (sxs_mem hmem)
              rw [hask] at h6
              first | (simp only [Fz.fi, hz1] at h5; rw [h6] at h5; cases h5) | cases h5
            · skip
              refine pk_skip ?_
              refine in_on ?_
              refine thru_on ?_
              refine pk_region ?_
              refine pk_val rfl rfl rfl (val_add rfl rfl rfl (by omega)) ?_
              refine pk_val rfl rfl rfl (val_move rfl rfl) ?_
              refine pk_nil ?_
              refine thru_on ?_
              refine pk_next (x := i) (i + 1) ?_ ?_ ?_ ?_
              · (try dsimp only) <;> exact hi
              · (try dsimp only); exact (by omega)
              · exact ⟨(Sub.cons rfl (by first | rfl | (congr 1; omega) | simp) (Sub.cons rfl (by first | rfl | (congr 1; omega) | simp) (Sub.cons rfl (by first | rfl | (congr 1; omega) | simp) (Sub.cons rfl (by first | rfl | (congr 1; omega) | simp) (Sub.cons rfl (by first | rfl | (congr 1; omega) | simp) (Sub.cons rfl (by first | rfl | (congr 1; omega) | simp) (Sub.cons rfl (by first | rfl | (congr 1; omega) | simp) (Sub.cons rfl (by first | rfl | (congr 1; omega) | simp) (Sub.cons rfl (by first | rfl | (congr 1; omega) | simp) (Sub.cons rfl (by first | rfl | (congr 1; omega) | simp) (Sub.cons rfl (by first | rfl | (congr 1; omega) | simp) (Sub.nil _)))))))))))), rfl⟩
              · exact (fun _ h => h)
        · skip
          have hfh' : filHas (vs.getD i dSl).a = false := by simpa using hfh
          have hpi := filP_no (z := (zs.getD i dFz)) (by rw [hz1]; exact hfh')
          refine Pk.slot 34 (v := .bool false) rfl (by rw [if_neg (by rw [hz1, hfh']; exact Bool.false_ne_true)]; rfl) ?_
          have hask : askB (vs.getD i dSl).a (vs.getD k dSl).a = false := by rw [askB, hfh']; rfl
          refine ord_val_no rfl rfl rfl rfl rfl rfl rfl (fun _ h => h) ?_
          refine ord_val_no rfl rfl rfl rfl rfl rfl rfl (fun _ h => h) ?_
          refine ord_val_no rfl rfl rfl rfl rfl rfl rfl (fun _ h => h) ?_
          refine ord_val_no rfl rfl rfl rfl rfl rfl rfl (fun _ h => h) ?_
          refine ord_val_no rfl rfl rfl rfl rfl rfl rfl (fun _ h => h) ?_
          refine ord_val_no rfl rfl rfl rfl rfl rfl rfl (fun _ h => h) ?_
          refine ord_val_no rfl rfl rfl rfl rfl rfl rfl (fun _ h => h) ?_
          refine ord_val_no rfl rfl rfl rfl rfl rfl rfl (fun _ h => h) ?_
          refine ord_val rfl rfl rfl rfl (fun _ h => h) (val_pick rfl rfl rfl rfl) ?_
          refine ord_val rfl rfl rfl rfl (fun _ h => h) (val_move rfl rfl) ?_
          refine ord_val_no rfl rfl rfl rfl rfl rfl rfl (fun _ h => h) ?_
          refine ord_val_no rfl rfl rfl rfl rfl rfl rfl (fun _ h => h) ?_
          refine ord_val_no rfl rfl rfl rfl rfl rfl rfl (fun _ h => h) ?_
          refine ord_eff_no rfl rfl rfl rfl rfl rfl rfl (fun _ h => h) ?_
          refine ord_val rfl rfl rfl rfl (fun _ h => h) (val_pick rfl rfl rfl rfl) ?_
          refine ord_nil ?_
          refine thru_on ?_
          refine pk_ifb rfl (fun h5 => ?_) (fun h5 => ?_)
          · skip
            exfalso
            have h6 := hno _ (sxs_mem himem) _ (sxs_mem hmem)
            rw [hask] at h6
            first | (simp only [Fz.fi, hz1] at h5; rw [h6] at h5; cases h5) | cases h5
          · skip
            refine pk_skip ?_
            refine in_on ?_
            refine thru_on ?_
            refine pk_region ?_
            refine pk_val rfl rfl rfl (val_add rfl rfl rfl (by omega)) ?_
            refine pk_val rfl rfl rfl (val_move rfl rfl) ?_
            refine pk_nil ?_
            refine thru_on ?_
            refine pk_next (x := i) (i + 1) ?_ ?_ ?_ ?_
            · (try dsimp only) <;> exact hi
            · (try dsimp only); exact (by omega)
            · exact ⟨(Sub.cons rfl (by first | rfl | (congr 1; omega) | simp) (Sub.cons rfl (by first | rfl | (congr 1; omega) | simp) (Sub.cons rfl (by first | rfl | (congr 1; omega) | simp) (Sub.cons rfl (by first | rfl | (congr 1; omega) | simp) (Sub.cons rfl (by first | rfl | (congr 1; omega) | simp) (Sub.cons rfl (by first | rfl | (congr 1; omega) | simp) (Sub.cons rfl (by first | rfl | (congr 1; omega) | simp) (Sub.cons rfl (by first | rfl | (congr 1; omega) | simp) (Sub.cons rfl (by first | rfl | (congr 1; omega) | simp) (Sub.cons rfl (by first | rfl | (congr 1; omega) | simp) (Sub.cons rfl (by first | rfl | (congr 1; omega) | simp) (Sub.nil _)))))))))))), rfl⟩
            · exact (fun _ h => h)
      · skip
        refine pk_exit ?_
        refine thru ?_
        refine thru ?_
        refine pk_here ?_
        refine thru_on ?_
        refine pk_seq ?_
        refine pk_region ?_
        refine pk_val rfl rfl rfl (val_move rfl rfl) ?_
        refine pk_val rfl rfl rfl (val_len_slice rfl Tryz.underlying54 rfl) ?_
        refine pk_val rfl rfl rfl (val_gtr rfl rfl rfl) ?_
        refine pk_nil ?_
        refine thru_on ?_
        refine pk_cond_f rfl ?_
        refine pk_skip ?_
        refine in_on ?_
        refine thru_on ?_
        refine pk_region ?_
        refine pk_val rfl rfl rfl (val_add rfl rfl rfl (by omega)) ?_
        refine pk_val rfl rfl rfl (val_move rfl rfl) ?_
        refine pk_nil ?_
        refine thru_on ?_
        refine pk_next (x := k) (k + 1) ?_ ?_ ?_ ?_
        · (try dsimp only) <;> exact hk
        · (try dsimp only); exact (by omega)
        · exact ⟨(Sub.cons rfl (by first | rfl | (congr 1; omega) | simp) (Sub.cons rfl (by first | rfl | (congr 1; omega) | simp) (Sub.cons rfl (by first | rfl | (congr 1; omega) | simp) (Sub.cons rfl (by first | rfl | (congr 1; omega) | simp) (Sub.cons rfl (by first | rfl | (congr 1; omega) | simp) (Sub.cons rfl (by first | rfl | (congr 1; omega) | simp) (Sub.nil _))))))), rfl⟩
        · exact (fun _ h => Sats.keep [false, true, true] h)
    · skip
      refine pk_exit ?_
      refine thru ?_
      refine thru ?_
      refine pk_here ?_
      refine thru_on ?_
      refine pk_seq ?_
      refine pk_region ?_
      refine pk_val rfl rfl rfl (val_move rfl rfl) ?_
      refine pk_val rfl rfl rfl (val_assign rfl rfl) ?_
      refine pk_val rfl rfl rfl (val_assign rfl rfl) ?_
      refine pk_nil ?_
      refine thru_on ?_
      refine pk_ret ?_
      refine ret2 rfl rfl rfl fun w s => ⟨rfl, s.to (fun _ h => Sats.keep [false, false] h)⟩
theorem hybrid_Second_no {E w : World} {L : List Ch} {A B : Option Addr} {c n m d : Nat} {ps : List (Option Nat)} {b h : Int} (s : Sat E w L) (hr : Ent L (RdL A (ps.map sp))) (hn : ps.length = n) (hl : n ≤ 1099511627776) (hno : (goodB ps && mayF b h) = false) :
    Calls Tryz.prog 27 #[.slice A n c, .slice B m d, .agg #[.int .i64 b, .int .i64 h]] w (Gives E (.tuple #[.slice none 0 0, .int .i64 1]) L) := by
  refine enter (vs := [_, _, _]) Tryz.func27 rfl Tryz.ntmps27 rfl s ?_
  refine pk_seq ?_
  refine pk_region ?_
  refine pk_eff (eff_box rfl rfl rfl) rfl rfl rfl (fun b5 _ => ?_)
  refine pk_val rfl rfl rfl (val_assign rfl rfl) ?_
  refine pk_val rfl rfl rfl (val_assign rfl rfl) ?_
  refine pk_nil ?_
  refine thru_on ?_
  refine pk_seq ?_
  refine pk_seq ?_
  refine pk_region ?_
  refine pk_val rfl rfl rfl (val_move rfl rfl) ?_
  refine pk_eff (eff_call1 rfl ⟨_, Tryz.func83, by kernel_rfl, rfl⟩ rfl (fun E w s => hybrid_good_c s hr.cons hn hl)) rfl rfl rfl (fun _ _ => ?_)
  refine pk_val rfl rfl rfl (val_not rfl rfl) ?_
  refine pk_val rfl rfl rfl (val_move rfl rfl) ?_
  by_cases hg : goodB ps = true
  · skip
    refine Pk.slot 18 (v := .bool false) rfl (by rw [hg]; rfl) ?_
    refine pk_guard_yes rfl rfl rfl ?_
    refine pk_val rfl rfl rfl (val_loads rfl Tryz.underlying35 rfl (by kernel_rfl) rfl (Ent.pure rfl) ((Ent.own 0 rfl).rds (fun j v h => by rw [Nat.zero_add j]; exact h))) ?_
    refine pk_guard_yes rfl rfl rfl ?_
    refine pk_eff (eff_call1 rfl ⟨_, Tryz.func84, by kernel_rfl, rfl⟩ rfl (fun E w s => hybrid_may_c s)) rfl rfl rfl (fun _ _ => ?_)
    refine pk_guard_yes rfl rfl rfl ?_
    refine pk_val rfl rfl rfl (val_not rfl rfl) ?_
    refine pk_val rfl rfl rfl (val_pick rfl rfl rfl rfl) ?_
    refine pk_nil ?_
    refine thru_on ?_
    refine pk_ifn rfl (fun hm => ?_) (fun hm => ?_)
    · skip
      refine pk_seq ?_
      refine pk_region ?_
      refine pk_val rfl rfl rfl (val_assign rfl rfl) ?_
      refine pk_val rfl rfl rfl (val_assign rfl rfl) ?_
      refine pk_nil ?_
      refine thru_on ?_
      refine pk_ret ?_
      refine thru_ret ?_
      refine ret2 rfl rfl rfl fun w s => ⟨rfl, s.to (fun _ h => Sats.keep [false] h)⟩
    · skip
      exfalso
      rw [hg, hm] at hno; cases hno
  · skip
    have hg' : goodB ps = false := by simpa using hg
    refine Pk.slot 18 (v := .bool true) rfl (by rw [hg']; rfl) ?_
    refine pk_guard_no rfl rfl rfl rfl rfl rfl ?_
    refine pk_guard_no rfl rfl rfl rfl rfl rfl ?_
    refine pk_guard_no rfl rfl rfl rfl rfl rfl ?_
    refine pk_val rfl rfl rfl (val_pick rfl rfl rfl rfl) ?_
    refine pk_nil ?_
    refine thru_on ?_
    refine pk_cond_t rfl ?_
    refine pk_seq ?_
    refine pk_region ?_
    refine pk_val rfl rfl rfl (val_assign rfl rfl) ?_
    refine pk_val rfl rfl rfl (val_assign rfl rfl) ?_
    refine pk_nil ?_
    refine thru_on ?_
    refine pk_ret ?_
    refine thru_ret ?_
    refine ret2 rfl rfl rfl fun w s => ⟨rfl, s.to (fun _ h => Sats.keep [false] h)⟩
theorem sxs_take1 {vs : List Sl} {k : Nat} (h : k < vs.length) : sxs (vs.take (k + 1)) = sxs (vs.take k) ++ [(vs.getD k dSl).a] := by
  have e : vs.getD k dSl = vs[k] := by simp [h]
  rw [sxs, List.take_succ_eq_append_getElem h, List.map_append, ← e]; rfl
theorem hybrid_Second_none {E w : World} {L : List Ch} {A B : Option Addr} {c d : Nat} {ps : List (Option Nat)} {vs : List Sl} {b e : Int} (s : Sat E w L) (hr : Ent L (RdL A (ps.map sp))) (hg : goodB ps = true) (hV : SlimsIn L B vs) (hm : mayF b e = true) (hf : formedX (sxs vs) = true) (hno : noAsk (sxs vs)) :
    Calls Tryz.prog 27 #[.slice A ps.length c, .slice B vs.length d, .agg #[.int .i64 b, .int .i64 e]] w (GivesX E (fun q : Option Addr × Nat × List Sl => .tuple #[.slice q.1 q.2.2.length q.2.1, .int .i64 0]) (fun q => own q.1 q.2.2.length q.2.1 30 4 (q.2.2.flatMap Sl.cells) :: Eng.cat (q.2.2.map slC) :: L) (fun q => sxs q.2.2 = sxs vs)) := by
  refine enter (vs := [_, _, _]) Tryz.func27 rfl Tryz.ntmps27 rfl s ?_
  have hgl : ps.length ≤ 64 := by
      simp only [goodB, Bool.and_eq_true, decide_eq_true_eq] at hg; exact hg.1.2
  have hvl := formedX_len hf
  have hvl2 : vs.length ≤ 1024 := by have := hvl.2; simpa [sxs] using this
  refine pk_seq ?_
  refine pk_region ?_
  refine pk_eff (eff_box rfl rfl rfl) rfl rfl rfl (fun b5 _ => ?_)
  refine pk_val rfl rfl rfl (val_assign rfl rfl) ?_
  refine pk_val rfl rfl rfl (val_assign rfl rfl) ?_
  refine pk_nil ?_
  refine thru_on ?_
  refine pk_seq ?_
  refine pk_seq ?_
  refine pk_region ?_
  refine pk_val rfl rfl rfl (val_move rfl rfl) ?_
  refine pk_eff (eff_call1 rfl ⟨_, Tryz.func83, by kernel_rfl, rfl⟩ rfl (fun E w s => hybrid_good_c s hr.cons rfl (by omega))) rfl rfl rfl (fun _ _ => ?_)
  refine pk_val rfl rfl rfl (val_not rfl rfl) ?_
  refine pk_val rfl rfl rfl (val_move rfl rfl) ?_
  refine Pk.slot 18 (v := .bool false) rfl (by rw [hg]; rfl) ?_
  refine pk_guard_yes rfl rfl rfl ?_
  refine pk_val rfl rfl rfl (val_loads rfl Tryz.underlying35 rfl (by kernel_rfl) rfl (Ent.pure rfl) ((Ent.own 0 rfl).rds (fun j v h => by rw [Nat.zero_add j]; exact h))) ?_
  refine pk_guard_yes rfl rfl rfl ?_
  refine pk_eff (eff_call1 rfl ⟨_, Tryz.func84, by kernel_rfl, rfl⟩ rfl (fun E w s => hybrid_may_c s)) rfl rfl rfl (fun _ _ => ?_)
  refine pk_guard_yes rfl rfl rfl ?_
  refine pk_val rfl rfl rfl (val_not rfl rfl) ?_
  refine pk_val rfl rfl rfl (val_pick rfl rfl rfl rfl) ?_
  refine pk_nil ?_
  refine thru_on ?_
  refine pk_ifn rfl (fun hm1 => ?_) (fun hm1 => ?_)
  · skip
    exfalso
    rw [hm] at hm1; cases hm1
  · skip
    refine pk_skip ?_
    refine thru_on ?_
    refine pk_seq ?_
    refine pk_region ?_
    refine pk_val rfl rfl rfl (val_move rfl rfl) ?_
    refine pk_eff (eff_call1 rfl ⟨_, Tryz.func20, by kernel_rfl, rfl⟩ rfl (fun E w s => hybrid_Needs_none s hV.cons hf hno)) rfl rfl rfl (fun _ _ => ?_)
    refine pk_val rfl rfl rfl (val_move rfl rfl) ?_
    refine pk_val rfl rfl rfl (val_extract rfl rfl rfl) ?_
    refine pk_val rfl rfl rfl (val_extract rfl rfl rfl) ?_
    refine pk_val rfl rfl rfl (val_assign rfl rfl) ?_
    refine pk_val rfl rfl rfl (val_assign rfl rfl) ?_
    refine pk_nil ?_
    refine thru_on ?_
    refine pk_seq ?_
    refine pk_seq ?_
    refine pk_region ?_
    refine pk_val rfl rfl rfl (val_move rfl rfl) ?_
    refine pk_val rfl rfl rfl (val_neq rfl rfl rfl) ?_
    refine pk_nil ?_
    refine thru_on ?_
    refine pk_if rfl (fun he1 => ?_) (fun he1 => ?_)
    · skip
      exfalso
      exact he1 rfl
    · skip
      refine pk_skip ?_
      refine thru_on ?_
      refine Pk.nilrow 30 4 ?_
      refine Pk.heap (fun _ h => Sats.cat_nil (f := slC) h) ?_
      refine pk_seq ?_
      refine pk_region ?_
      refine pk_val rfl rfl rfl (val_assign rfl rfl) ?_
      refine pk_nil ?_
      refine thru_on ?_
      refine pk_seq ?_
      refine pk_seq ?_
      refine pk_region ?_
      refine pk_val rfl rfl rfl (val_move rfl rfl) ?_
      refine pk_val rfl rfl rfl (val_len_slice rfl Tryz.underlying43 rfl) ?_
      refine pk_val rfl rfl rfl (val_move rfl rfl) ?_
      refine pk_nil ?_
      refine thru_on ?_
      refine pk_block ?_
      refine pk_loop (α := Nat × Option Addr × Nat × List Sl) ((0, none, 0, [])) (fun y => [(8, .slice none 0 0), (10, .slice y.2.1 y.2.2.2.length y.2.2.1), (31, .slice B vs.length d), (32, .int .i64 (vs.length : Nat)), (33, .int .i64 (y.1 : Nat))]) (fun y => (Eng.cat (y.2.2.2.map slC)) :: (own y.2.1 y.2.2.2.length y.2.2.1 30 4 (y.2.2.2.flatMap Sl.cells)) :: L) (fun y => y.1 ≤ vs.length ∧ sxs y.2.2.2 = sxs (vs.take y.1)) (fun y => vs.length - y.1) ?_ ?_ ?_ ?_
      · (try dsimp only) <;> exact ⟨Nat.zero_le _, rfl⟩
      · exact ⟨(Sub.cons rfl (by first | rfl | (congr 1; omega) | simp) (Sub.cons rfl (by first | rfl | (congr 1; omega) | simp) (Sub.cons rfl (by first | rfl | (congr 1; omega) | simp) (Sub.cons rfl (by first | rfl | (congr 1; omega) | simp) (Sub.cons rfl (by first | rfl | (congr 1; omega) | simp) (Sub.nil _)))))), rfl⟩
      · exact (fun _ h => Sats.keep [true, true, false] h)
      rintro ⟨k, q, d1, outs⟩ ⟨hk0, hI⟩
      dsimp only at hk0 hI ⊢
      have hol : outs.length = k := by
        have := congrArg List.length hI
        simp [sxs] at this; omega
      refine pk_seq ?_
      refine pk_region ?_
      refine pk_val rfl rfl rfl (val_lss rfl rfl rfl) ?_
      refine pk_nil ?_
      refine thru_on ?_
      refine pk_seq ?_
      refine pk_if rfl (fun h3 => ?_) (fun h3 => ?_)
      · skip
        refine pk_skip ?_
        refine thru_on ?_
        have hk : k < vs.length := by omega
        have hmem := getD_mem dSl hk
        have hv := hV.each _ hmem
        refine Pk.tells (hV.cons.cons.rows.some_of (by rw [flat_length Sl.cells_len]; omega)) fun hA => ?_
        refine pk_seq ?_
        refine pk_block ?_
        refine pk_seq ?_
        refine pk_region ?_
        refine pk_val rfl rfl rfl (val_indexAddr rfl Tryz.underlying43 4 (by kernel_rfl) rfl rfl k rfl hk (Ent.pure hA)) ?_
        refine pk_val rfl rfl rfl (val_loads (vs := (vs.getD k dSl).cells) rfl Tryz.underlying30 rfl (by kernel_rfl) rfl (Ent.pure hA) (hV.cons.cons.rows.rds (flat_rds Sl.cells_len dSl hk))) ?_
        refine pk_eff (eff_alloc (z := [.string ⟨#[]⟩, .int .u64 0, .string ⟨#[]⟩, .slice none 0 0]) rfl (by kernel_rfl)) rfl rfl rfl (fun b12 _ => ?_)
        refine pk_eff0 (eff_storeW 0 rfl rfl rfl rfl rfl (by kernel_rfl) rfl rfl rfl) rfl rfl (fun _ _ => ?_)
        refine pk_nil ?_
        refine thru_on ?_
        refine pk_seq ?_
        refine pk_region ?_
        refine pk_val rfl rfl rfl (val_fieldAddr rfl Tryz.underlying30 3 1 (by kernel_rfl) (by decide) rfl (Ent.pure rfl)) ?_
        refine pk_val rfl rfl rfl (val_load (v := .slice (vs.getD k dSl).A (vs.getD k dSl).a.f.length (vs.getD k dSl).c) rfl Tryz.underlying28 rfl rfl ((Ent.own 0 rfl).rd rfl)) ?_
        refine pk_eff (eff_callx rfl ⟨_, Tryz.func87, by kernel_rfl, rfl⟩ rfl (fun E w s => slices_Clone_byte_c (l := (vs.getD k dSl).a.f) s hv.row.cons.cons.cons rfl hv.len)) rfl rfl rfl (fun q39 _ => ?_)
        refine pk_val rfl rfl rfl (val_fieldAddr rfl Tryz.underlying30 3 1 (by kernel_rfl) (by decide) rfl (Ent.pure rfl)) ?_
        refine pk_eff0 (eff_store 1 rfl rfl rfl rfl rfl (by kernel_rfl) rfl (by first | (simp; done) | exact Nat.le_refl _ | exact Nat.le_of_ble_eq_true rfl) (by first | (simp; done) | exact Nat.le_refl _ | exact Nat.le_of_ble_eq_true rfl)) rfl rfl (fun _ _ => ?_)
        refine pk_nil ?_
        refine thru_on ?_
        refine pk_seq ?_
        refine pk_seq ?_
        refine pk_drawk (.val 0 (.val 1 (.val 2 (.val 3 (.val 4 (.val 5 (.val 6 (.val 7 (.val 8 (.val 9 (.val 10 (.val 11 .nil)))))))))))) 1012 [] rfl (by kernel_rfl) (fun _ _ _ _ _ h => h) ?_
        refine ord_val rfl rfl rfl rfl (fun _ h => h) (val_move rfl rfl) ?_
        refine ord_val rfl rfl rfl rfl (fun _ h => h) (val_len_slice rfl Tryz.underlying46 rfl) ?_
        refine ord_val rfl rfl rfl rfl (fun _ h => h) (val_gtr rfl rfl rfl) ?_
        refine ord_val rfl rfl rfl rfl (fun _ h => h) (val_move rfl rfl) ?_
        refine ord_val_no rfl rfl rfl rfl rfl rfl rfl (fun _ h => h) ?_
        refine ord_val_no rfl rfl rfl rfl rfl rfl rfl (fun _ h => h) ?_
        refine ord_val_no rfl rfl rfl rfl rfl rfl rfl (fun _ h => h) ?_
        refine ord_val_no rfl rfl rfl rfl rfl rfl rfl (fun _ h => h) ?_
        refine ord_val_no rfl rfl rfl rfl rfl rfl rfl (fun _ h => h) ?_
        refine ord_val_no rfl rfl rfl rfl rfl rfl rfl (fun _ h => h) ?_
        refine ord_val_no rfl rfl rfl rfl rfl rfl rfl (fun _ h => h) ?_
        refine ord_val rfl rfl rfl rfl (fun _ h => h) (val_pick rfl rfl rfl rfl) ?_
        refine ord_nil ?_
        refine thru_on ?_
        refine pk_cond_f rfl ?_
        refine pk_skip ?_
        refine thru_on ?_
        refine pk_region ?_
        refine pk_val rfl rfl rfl (val_move rfl rfl) ?_
        refine pk_val rfl rfl rfl (val_loads (vs := (⟨(vs.getD k dSl).a, q39.1, q39.2⟩ : Sl).cells) rfl Tryz.underlying30 rfl (by kernel_rfl) rfl (Ent.pure rfl) ((Ent.own 1 rfl).rds (fun j v h => by rw [Nat.zero_add j]; exact h))) ?_
        refine pk_eff (eff_buildSlice (len := 1) (sz := 4) (z := #[.string ⟨#[]⟩, .int .u64 0, .string ⟨#[]⟩, .slice none 0 0]) rfl Tryz.underlying43 (by kernel_rfl) rfl rfl rfl (by decide) (by decide) rfl rfl) rfl rfl rfl (fun b87 _ => ?_)
        refine pk_eff (eff_append1 (sz := 4) (bytes := 64) (z := .agg #[.string ⟨#[]⟩, .int .u64 0, .string ⟨#[]⟩, .slice none 0 0]) 4 rfl Tryz.underlying43 (by kernel_rfl) rfl (by decide) (by decide) rfl rfl rfl (Ent.own 0 rfl) (by first | rfl | (simp; done) | exact flat_length (s := 4) (fun _ => rfl) _) (by first | rfl | (simp; done)) rfl (by omega)) rfl rfl rfl (fun q88 _ => ?_)
        refine pk_val rfl rfl rfl (val_assign rfl rfl) ?_
        refine pk_nil ?_
        refine in_on ?_
        refine thru_on ?_
        refine pk_region ?_
        refine pk_val rfl rfl rfl (val_add rfl rfl rfl (by omega)) ?_
        refine pk_val rfl rfl rfl (val_move rfl rfl) ?_
        refine pk_nil ?_
        refine thru_on ?_
        refine pk_next (x := ⟨k, q, d1, outs⟩) ((k + 1, q88.1, q88.2, outs ++ [⟨(vs.getD k dSl).a, q39.1, q39.2⟩])) ?_ ?_ ?_ ?_
        · (try dsimp only) <;> exact ⟨hk, by (try dsimp only); rw [sxs_take1 hk, ← hI]; simp [sxs]⟩
        · (try dsimp only); exact (by omega)
        · exact ⟨(Sub.cons rfl (by first | rfl | (congr 1; omega) | simp) (Sub.cons rfl (by simp) (Sub.cons rfl (by first | rfl | (congr 1; omega) | simp) (Sub.cons rfl (by first | rfl | (congr 1; omega) | simp) (Sub.cons rfl (by first | rfl | (congr 1; omega) | simp) (Sub.nil _)))))), rfl⟩
        · exact (fun _ h => by (try dsimp only); rw [List.flatMap_append, List.length_append]; exact Sats.cat_snoc (f := slC) (y := (⟨(vs.getD k dSl).a, q39.1, q39.2⟩ : Sl)) (Sats.keep [false, true, false, true, true] h))
      · skip
        refine pk_exit ?_
        refine thru ?_
        refine thru ?_
        refine pk_here ?_
        refine thru_on ?_
        refine pk_seq ?_
        refine pk_region ?_
        refine pk_val rfl rfl rfl (val_move rfl rfl) ?_
        refine pk_val rfl rfl rfl (val_assign rfl rfl) ?_
        refine pk_val rfl rfl rfl (val_assign rfl rfl) ?_
        refine pk_nil ?_
        refine thru_on ?_
        refine pk_ret ?_
        have hkk : k = vs.length := by omega
        refine ret2 rfl rfl rfl fun w s => ⟨(q, d1, outs), ?_, rfl, s.to (fun _ h => (Sats.pick 2 [1, 0] rfl h :))⟩
        dsimp only; rw [hI, hkk, List.take_length]
end Go.Proofs.YtdpckendkklfdaaGreat
