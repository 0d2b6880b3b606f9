/- ShardKeeps, the walk. -/
import Derived.Test.YtdpckendkklfdaaShD
set_option linter.unusedVariables false
set_option linter.unusedSimpArgs false
set_option maxRecDepth 100000
namespace Go.Proofs.Ytdpckendkklfdaa
open Go.RowKit Go.Proofs.Eng
def spS : ByteArray := ⟨#[115, 112, 97, 114, 101]⟩
def roS : ByteArray := ⟨#[114, 111, 111, 109]⟩
def GR.row {α : Type} (g : GR α) : Row := ⟨g.A, g.l.length, g.c⟩
theorem gr_rows {α : Type} {T : TypeId} {sz : Nat} {enc : α → List Value} (he : ∀ x, (enc x).length = sz) (gs : List (GR α)) {L : List Ch} {h : Hp} (s : Sats (Eng.cat (gs.map (grCh T sz enc)) :: L) h) : Sats (Eng.cat ((gs.map GR.row).map (rowAny T sz)) :: L) h := by
  rw [List.map_map]
  exact Sats.cat_mono (f := grCh T sz enc) (g := rowAny T sz ∘ GR.row) (fun g _ h o => ⟨_, by rw [flat_length he]; rfl, o⟩) s
theorem row_getD {α : Type} {gs : List (GR α)} {k : Nat} (h : k < gs.length) : (gs.map GR.row).getD k dRow = (gs.getD k dGR).row := by simp [h]
theorem ga_same {α : Type} {us bs : List (GR α)} (h : us.map GR.a = bs.map GR.a) {k : Nat} (hk : k < us.length) : k < bs.length ∧ (us.getD k dGR).l = (bs.getD k dGR).l := by
  have hl : us.length = bs.length := by have := congrArg List.length h; simpa using this
  have hk2 : k < bs.length := by omega
  refine ⟨hk2, ?_⟩
  have := congrArg (fun l => l.getD k ((0 : Int), ([] : List α))) h
  (try dsimp only at this)
  rw [map_getD GR.a dGR hk, map_getD GR.a dGR hk2] at this
  exact (Prod.mk.inj this).2
theorem ga_len {α : Type} {us bs : List (GR α)} (h : us.map GR.a = bs.map GR.a) : us.length = bs.length := by have := congrArg List.length h; simpa using this
theorem rows_small {α : Type} {us bs : List (GR α)} {n : Nat} (ha : ∀ g ∈ us, g.l.length ≤ n) (hb : ∀ g ∈ bs, g.l.length ≤ n) : ∀ r ∈ interR (us.map GR.row) (bs.map GR.row), r.n ≤ n := fun r hr => by
  rcases interR_mem hr with h | h
  · obtain ⟨g, hg, rfl⟩ := List.mem_map.1 h; exact ha g hg
  · obtain ⟨g, hg, rfl⟩ := List.mem_map.1 h; exact hb g hg
theorem two_snoc {us bs : List Row} {k : Nat} (h1 : k < us.length) (h2 : us.length = bs.length) (a b : Row) (ha : us.getD k dRow = a) (hb : bs.getD k dRow = b) : (interR (us.take k) (bs.take k)).map rowV ++ [rowV a, rowV b] = (interR (us.take (k + 1)) (bs.take (k + 1))).map rowV := by
  rw [interR_snoc us bs k h1 h2, ha, hb]; simp
theorem inter_full {us bs : List Row} {n : Nat} (h1 : us.length = n) (h2 : bs.length = n) : interR (us.take n) (bs.take n) = interR us bs := by
  rw [List.take_of_length_le (by omega), List.take_of_length_le (by omega)]
theorem get_sp (ps : List Pr) (j : Nat) (ex : List Value) {v : Value} (h : ex[j]? = some v) (i : Nat) (hi : i = ps.length * 2 + j) : (ps.flatMap pC2 ++ ex)[i]? = some v := by
  subst hi
  rw [List.getElem?_append_right (by rw [flat_length pC2_len]; omega), flat_length pC2_len, show ps.length * 2 + j - ps.length * 2 = j by omega]
  exact h
theorem marked_in {L : List Ch} {h : Hp} {us bs : List (GR ByteArray)} {xs ys : List (GR Pr)} (h1 : us.length = bs.length) (h2 : xs.length = ys.length) (s : Sats (Eng.cat (us.map (grCh 9 1 sC1)) :: Eng.cat (bs.map (grCh 9 1 sC1)) :: Eng.cat (xs.map (grCh 47 2 pC2)) :: Eng.cat (ys.map (grCh 47 2 pC2)) :: L) h) :
    Sats (Eng.cat ((interR (us.map GR.row) (bs.map GR.row)).map (rowAny 9 1)) :: Eng.cat ((interR (xs.map GR.row) (ys.map GR.row)).map (rowAny 47 2)) :: L) h := by
  have s1 := gr_rows sC1_len us s
  have s2 := Sats.interR _ _ (by rw [List.length_map, List.length_map]; exact h1) (Sats.under (fun _ s => gr_rows sC1_len bs s) s1)
  exact Sats.under (fun _ s => Sats.interR _ _ (by rw [List.length_map, List.length_map]; exact h2) (Sats.under (fun _ s => gr_rows pC2_len ys s) (gr_rows pC2_len xs s))) s2
theorem pC2_one (l : List Pr) : (l.flatMap pC2).all (·.oneCell') = true := all_map_flat (fun x => rfl) l
theorem str_one (l : List ByteArray) : (l.map Value.string).all (·.oneCell') = true := by
  rw [List.all_map]; exact List.all_eq_true.2 fun v _ => rfl
theorem law05_ShardKeeps_c {E w : World} {L : List Ch} {K Pp : Option Addr} {kc pc : Nat} {ks : List ByteArray} {ps : List Pr} {n : Int} (s : Sat E w L) (hK : Ent L (RdL K (ks.map .string))) (hP : Ent L (RdL Pp (ps.flatMap pC2))) (hkn : ks.length ≤ 1048576) (hpn : ps.length ≤ 1048576) (hks : ∀ x ∈ ks, x.size ≤ 4611686018427387904) (hpss : ∀ x ∈ ps, x.1.size ≤ 4611686018427387904) :
    Calls Try.prog 4 #[.slice K ks.length kc, .slice Pp ps.length pc, .int .i64 n] w (Gives E (.bool true) L) := by
  have hrl := restN_le n 63
  refine enter (vs := [_, _, _]) Try.func4 rfl Try.ntmps4 rfl s ?_
  refine pk_seq ?_
  refine pk_region ?_
  refine pk_val rfl rfl rfl (val_assign rfl rfl) ?_
  refine pk_nil ?_
  refine thru_on ?_
  refine pk_seq ?_
  refine pk_region ?_
  refine pk_val rfl rfl rfl (val_move rfl rfl) ?_
  refine pk_eff (eff_call1 rfl ⟨_, Try.func13, by kernel_rfl, rfl⟩ rfl (fun E w s => law05_rest_c (m := 63) s (by omega))) rfl rfl rfl (fun _ _ => ?_)
  refine pk_val rfl rfl rfl (val_add rfl rfl rfl (by omega)) ?_
  refine pk_val rfl rfl rfl (val_assign rfl rfl) ?_
  refine pk_nil ?_
  refine thru_on ?_
  refine pk_seq ?_
  refine pk_region ?_
  refine Pk.nilrow 9 1 ?_
  refine pk_val rfl rfl rfl (val_move rfl rfl) ?_
  refine pk_eff (eff_append1 (sz := 1) (bytes := 16) (z := .string ⟨#[]⟩) 0 rfl Try.underlying34 (by kernel_rfl) rfl (by decide) (by decide) rfl rfl rfl (hK.cons) rfl (by rw [List.length_map, Nat.mul_one]) (str_one ks) (by omega)) rfl rfl rfl (fun q33 _ => ?_)
  refine pk_eff (eff_buildSlice (len := 2) (sz := 1) (z := #[.string ⟨#[]⟩]) rfl Try.underlying34 (by kernel_rfl) rfl rfl rfl (by decide) (by decide) rfl rfl) rfl rfl rfl (fun b34 _ => ?_)
  refine pk_eff (eff_append1 (sz := 1) (bytes := 16) (z := .string ⟨#[]⟩) 1 rfl Try.underlying34 (by kernel_rfl) rfl (by decide) (by decide) rfl rfl rfl (Ent.own 0 rfl) (by simp) rfl rfl (by omega)) rfl rfl rfl (fun q35 _ => ?_)
  refine pk_val rfl rfl rfl (val_assign rfl rfl) ?_
  refine pk_nil ?_
  refine thru_on ?_
  refine pk_seq ?_
  refine pk_region ?_
  refine Pk.nilrow 47 2 ?_
  refine pk_val rfl rfl rfl (val_move rfl rfl) ?_
  refine pk_eff (eff_append1 (sz := 2) (bytes := 32) (z := .agg #[.string ⟨#[]⟩, .string ⟨#[]⟩]) 0 rfl Try.underlying44 (by kernel_rfl) rfl (by decide) (by decide) rfl rfl rfl (hP.cons.cons.cons) rfl (flat_length pC2_len ps) (pC2_one ps) (by omega)) rfl rfl rfl (fun q37 _ => ?_)
  refine pk_val rfl rfl rfl (val_build (z := [.string ⟨#[]⟩, .string ⟨#[]⟩]) [(0, 1), (1, 1)] rfl Try.underlying47 (by kernel_rfl) (by kernel_rfl) rfl rfl rfl) ?_
  refine pk_val rfl rfl rfl (val_build (z := [.string ⟨#[]⟩, .string ⟨#[]⟩]) [(0, 1), (1, 1)] rfl Try.underlying47 (by kernel_rfl) (by kernel_rfl) rfl rfl rfl) ?_
  refine pk_eff (eff_buildSlice (len := 2) (sz := 2) (z := #[.string ⟨#[]⟩, .string ⟨#[]⟩]) rfl Try.underlying44 (by kernel_rfl) rfl rfl rfl (by decide) (by decide) rfl rfl) rfl rfl rfl (fun b40 _ => ?_)
  refine pk_eff (eff_append1 (sz := 2) (bytes := 32) (z := .agg #[.string ⟨#[]⟩, .string ⟨#[]⟩]) 1 rfl Try.underlying44 (by kernel_rfl) rfl (by decide) (by decide) rfl rfl rfl (Ent.own 0 rfl) (by rw [List.nil_append, flat_length pC2_len, Nat.zero_add]) rfl rfl (by omega)) rfl rfl rfl (fun q41 _ => ?_)
  refine pk_val rfl rfl rfl (val_assign rfl rfl) ?_
  refine pk_nil ?_
  refine thru_on ?_
  refine pk_seq ?_
  refine pk_region ?_
  refine Pk.heap (fun _ h => by rw [Nat.zero_add, Nat.zero_add, List.nil_append, List.nil_append] at h; exact h) ?_
  refine Pk.slot 7 (v := .slice q35.1 (ks.length + 2) q35.2) rfl (by congr 1; omega) ?_
  refine Pk.slot 8 (v := .slice q41.1 (ps.length + 2) q41.2) rfl (by congr 1; omega) ?_
  refine Pk.tells (Ent.cap 3 rfl) fun hcp1 => ?_
  refine Pk.tells (Ent.cap 1 rfl) fun hcp2 => ?_
  obtain ⟨parts, hpt⟩ : ∃ parts, parts = 1 + restN n 63 := ⟨_, rfl⟩
  have hmp : mayP (parts : Int) = true := by simp only [mayP, Bool.and_eq_true, decide_eq_true_eq]; omega
  refine Pk.slot 2 (v := .int .i64 (parts : Nat)) rfl (by congr 1; omega) ?_
  refine Pk.tells ((Ent.own 3 rfl).some_of (by rw [List.length_append]; exact Nat.lt_of_lt_of_le (show 0 < 2 by decide) (Nat.le_add_left 2 _))) fun hn1 => ?_
  refine Pk.tells ((Ent.own 1 rfl).some_of (by rw [List.length_append]; exact Nat.lt_of_lt_of_le (show 0 < 4 by decide) (Nat.le_add_left 4 _))) fun hn2 => ?_
  refine pk_val rfl rfl rfl (val_move rfl rfl) ?_
  refine pk_val rfl rfl rfl (val_move rfl rfl) ?_
  refine pk_val rfl rfl rfl (val_len_slice rfl Try.underlying34 rfl) ?_
  refine pk_val rfl rfl rfl (val_slice_h rfl Try.underlying34 (by kernel_rfl) rfl rfl ks.length rfl (by omega)) ?_
  refine pk_val rfl rfl rfl (val_move rfl rfl) ?_
  refine pk_eff (eff_callx rfl ⟨_, Try.func14, by kernel_rfl, rfl⟩ rfl (fun E w s => shard_Group_c (xs := ks) s (Ent.left (Ent.own 3 rfl)) hks (by omega) hmp)) rfl rfl rfl (fun q48 hq48 => ?_)
  refine pk_val rfl rfl rfl (val_move rfl rfl) ?_
  refine pk_val rfl rfl rfl (val_extract rfl rfl rfl) ?_
  refine pk_val rfl rfl rfl (val_extract rfl rfl rfl) ?_
  refine pk_val rfl rfl rfl (val_assign rfl rfl) ?_
  refine pk_val rfl rfl rfl (val_assign rfl rfl) ?_
  refine pk_nil ?_
  refine thru_on ?_
  refine pk_seq ?_
  refine pk_region ?_
  refine pk_val rfl rfl rfl (val_move rfl rfl) ?_
  refine pk_val rfl rfl rfl (val_move rfl rfl) ?_
  refine pk_val rfl rfl rfl (val_len_slice rfl Try.underlying34 rfl) ?_
  refine pk_val rfl rfl rfl (val_slice_h rfl Try.underlying34 (by kernel_rfl) rfl rfl ks.length rfl (by omega)) ?_
  refine pk_val rfl rfl rfl (val_move rfl rfl) ?_
  refine pk_eff (eff_callx rfl ⟨_, Try.func14, by kernel_rfl, rfl⟩ rfl (fun E w s => shard_Group_c (xs := ks) s (Ent.left (Ent.own 5 rfl)) hks (by omega) hmp)) rfl rfl rfl (fun q57 hq57 => ?_)
  refine pk_val rfl rfl rfl (val_move rfl rfl) ?_
  refine pk_val rfl rfl rfl (val_extract rfl rfl rfl) ?_
  refine pk_val rfl rfl rfl (val_extract rfl rfl rfl) ?_
  refine pk_val rfl rfl rfl (val_assign rfl rfl) ?_
  refine pk_val rfl rfl rfl (val_assign rfl rfl) ?_
  refine pk_nil ?_
  refine thru_on ?_
  refine pk_seq ?_
  refine pk_region ?_
  refine pk_val rfl rfl rfl (val_move rfl rfl) ?_
  refine pk_val rfl rfl rfl (val_move rfl rfl) ?_
  refine pk_val rfl rfl rfl (val_len_slice rfl Try.underlying44 rfl) ?_
  refine pk_val rfl rfl rfl (val_slice_h rfl Try.underlying44 (by kernel_rfl) rfl rfl ps.length rfl (by omega)) ?_
  refine pk_val rfl rfl rfl (val_move rfl rfl) ?_
  refine pk_eff (eff_callx rfl ⟨_, Try.func15, by kernel_rfl, rfl⟩ rfl (fun E w s => shard_GroupPairs_c (xs := ps) s (Ent.left (Ent.own 5 rfl)) hpss (by omega) hmp)) rfl rfl rfl (fun q66 hq66 => ?_)
  refine pk_val rfl rfl rfl (val_move rfl rfl) ?_
  refine pk_val rfl rfl rfl (val_extract rfl rfl rfl) ?_
  refine pk_val rfl rfl rfl (val_extract rfl rfl rfl) ?_
  refine pk_val rfl rfl rfl (val_assign rfl rfl) ?_
  refine pk_val rfl rfl rfl (val_assign rfl rfl) ?_
  refine pk_nil ?_
  refine thru_on ?_
  refine pk_seq ?_
  refine pk_region ?_
  refine pk_val rfl rfl rfl (val_move rfl rfl) ?_
  refine pk_val rfl rfl rfl (val_move rfl rfl) ?_
  refine pk_val rfl rfl rfl (val_len_slice rfl Try.underlying44 rfl) ?_
  refine pk_val rfl rfl rfl (val_slice_h rfl Try.underlying44 (by kernel_rfl) rfl rfl ps.length rfl (by omega)) ?_
  refine pk_val rfl rfl rfl (val_move rfl rfl) ?_
  refine pk_eff (eff_callx rfl ⟨_, Try.func15, by kernel_rfl, rfl⟩ rfl (fun E w s => shard_GroupPairs_c (xs := ps) s (Ent.left (Ent.own 7 rfl)) hpss (by omega) hmp)) rfl rfl rfl (fun q75 hq75 => ?_)
  refine pk_val rfl rfl rfl (val_move rfl rfl) ?_
  refine pk_val rfl rfl rfl (val_extract rfl rfl rfl) ?_
  refine pk_val rfl rfl rfl (val_extract rfl rfl rfl) ?_
  refine pk_val rfl rfl rfl (val_assign rfl rfl) ?_
  refine pk_val rfl rfl rfl (val_assign rfl rfl) ?_
  refine pk_nil ?_
  refine thru_on ?_
  refine pk_seq ?_
  refine pk_seq ?_
  refine pk_region ?_
  have e4857 := hq48.1.trans hq57.1.symm
  have e6675 := hq66.1.trans hq75.1.symm
  have hab48 := ga_len e4857
  have hab66 := ga_len e6675
  have hkl48 := hq48.2.2
  have hkl57 := hq57.2.2
  have hkl66 := hq66.2.2
  have hkl75 := hq75.2.2
  have hgl48 := hq48.2.1
  have hgl57 := hq57.2.1
  have hgl66 := hq66.2.1
  have hgl75 := hq75.2.1
  refine pk_eff (eff_call1 rfl ⟨_, Try.func16, by kernel_rfl, rfl⟩ rfl (fun E w s => law05_known_c s)) rfl rfl rfl (fun _ _ => ?_)
  refine pk_val rfl rfl rfl (val_not rfl rfl) ?_
  refine pk_val rfl rfl rfl (val_move rfl rfl) ?_
  refine pk_guard_yes rfl rfl rfl ?_
  refine pk_val rfl rfl rfl (val_move rfl rfl) ?_
  refine pk_guard_yes rfl rfl rfl ?_
  refine pk_val rfl rfl rfl (val_move rfl rfl) ?_
  refine pk_guard_yes rfl rfl rfl ?_
  refine pk_val rfl rfl rfl (val_len_slice rfl Try.underlying34 rfl) ?_
  refine pk_guard_yes rfl rfl rfl ?_
  refine pk_val rfl rfl rfl (val_slice_h rfl Try.underlying34 (by kernel_rfl) rfl rfl ks.length rfl (by omega)) ?_
  refine pk_guard_yes rfl rfl rfl ?_
  refine pk_val rfl rfl rfl (val_move rfl rfl) ?_
  refine pk_guard_yes rfl rfl rfl ?_
  refine pk_eff (eff_call1 rfl ⟨_, Try.func17, by kernel_rfl, rfl⟩ rfl (fun E w s => law05_same_c s (Ent.left (Ent.own 11 rfl)) hK.cons.cons.cons.cons.cons.cons.cons.cons.cons.cons.cons.cons rfl rfl (by omega))) rfl rfl rfl (fun _ _ => ?_)
  refine Pk.slot 86 (v := .bool true) rfl (congrArg Value.bool (decide_eq_true rfl)) ?_
  refine pk_guard_yes rfl rfl rfl ?_
  refine pk_val rfl rfl rfl (val_not rfl rfl) ?_
  refine pk_val rfl rfl rfl (val_pick rfl rfl rfl rfl) ?_
  refine pk_val rfl rfl rfl (val_move rfl rfl) ?_
  refine pk_guard_yes rfl rfl rfl ?_
  refine pk_val rfl rfl rfl (val_move rfl rfl) ?_
  refine pk_guard_yes rfl rfl rfl ?_
  refine pk_val rfl rfl rfl (val_move rfl rfl) ?_
  refine pk_guard_yes rfl rfl rfl ?_
  refine pk_val rfl rfl rfl (val_len_slice rfl Try.underlying44 rfl) ?_
  refine pk_guard_yes rfl rfl rfl ?_
  refine pk_val rfl rfl rfl (val_slice_h rfl Try.underlying44 (by kernel_rfl) rfl rfl ps.length rfl (by omega)) ?_
  refine pk_guard_yes rfl rfl rfl ?_
  refine pk_val rfl rfl rfl (val_move rfl rfl) ?_
  refine pk_guard_yes rfl rfl rfl ?_
  refine pk_eff (eff_call1 rfl ⟨_, Try.func18, by kernel_rfl, rfl⟩ rfl (fun E w s => law05_samePairs_c s (Ent.left (Ent.own 9 rfl)) hP.cons.cons.cons.cons.cons.cons.cons.cons.cons.cons.cons.cons rfl rfl (by omega))) rfl rfl rfl (fun _ _ => ?_)
  refine Pk.slot 95 (v := .bool true) rfl (congrArg Value.bool (decide_eq_true rfl)) ?_
  refine pk_guard_yes rfl rfl rfl ?_
  refine pk_val rfl rfl rfl (val_not rfl rfl) ?_
  refine pk_val rfl rfl rfl (val_pick rfl rfl rfl rfl) ?_
  refine pk_val rfl rfl rfl (val_move rfl rfl) ?_
  refine pk_guard_yes rfl rfl rfl ?_
  refine pk_val rfl rfl rfl (val_move rfl rfl) ?_
  refine pk_guard_yes rfl rfl rfl ?_
  refine pk_val rfl rfl rfl (val_move rfl rfl) ?_
  refine pk_guard_yes rfl rfl rfl ?_
  refine pk_val rfl rfl rfl (val_len_slice rfl Try.underlying34 rfl) ?_
  refine pk_guard_yes rfl rfl rfl ?_
  refine pk_val rfl rfl rfl (val_indexAddr rfl Try.underlying34 1 (by kernel_rfl) rfl rfl ks.length rfl (by omega) (Ent.pure hn1)) ?_
  refine pk_guard_yes rfl rfl rfl ?_
  refine pk_val rfl rfl rfl (val_load (v := .string spS) rfl Try.underlying9 rfl rfl ((Ent.own 11 rfl).rd (get_app (j := 0) (List.length_map _) rfl (by omega)))) ?_
  refine pk_guard_yes rfl rfl rfl ?_
  refine pk_val rfl rfl rfl (val_str_neq rfl rfl rfl) ?_
  refine Pk.slot 104 (v := .bool false) rfl (congrArg Value.bool (decide_eq_false (fun h => h rfl))) ?_
  refine pk_val rfl rfl rfl (val_pick rfl rfl rfl rfl) ?_
  refine pk_val rfl rfl rfl (val_move rfl rfl) ?_
  refine pk_guard_yes rfl rfl rfl ?_
  refine pk_val rfl rfl rfl (val_move rfl rfl) ?_
  refine pk_guard_yes rfl rfl rfl ?_
  refine pk_val rfl rfl rfl (val_move rfl rfl) ?_
  refine pk_guard_yes rfl rfl rfl ?_
  refine pk_val rfl rfl rfl (val_len_slice rfl Try.underlying44 rfl) ?_
  refine pk_guard_yes rfl rfl rfl ?_
  refine pk_val rfl rfl rfl (val_indexAddr rfl Try.underlying44 2 (by kernel_rfl) rfl rfl ps.length rfl (by omega) (Ent.pure hn2)) ?_
  refine pk_guard_yes rfl rfl rfl ?_
  refine pk_val rfl rfl rfl (val_fieldAddr rfl Try.underlying47 0 1 (by kernel_rfl) (by decide) rfl (Ent.pure (by first | rfl | assumption))) ?_
  refine pk_guard_yes rfl rfl rfl ?_
  refine pk_val rfl rfl rfl (val_load (v := .string spS) rfl Try.underlying9 rfl rfl ((Ent.own 9 rfl).rd (get_sp ps 0 _ rfl _ (by omega)))) ?_
  refine pk_guard_yes rfl rfl rfl ?_
  refine pk_val rfl rfl rfl (val_str_neq rfl rfl rfl) ?_
  refine Pk.slot 113 (v := .bool false) rfl (congrArg Value.bool (decide_eq_false (fun h => h rfl))) ?_
  refine pk_val rfl rfl rfl (val_pick rfl rfl rfl rfl) ?_
  refine pk_val rfl rfl rfl (val_move rfl rfl) ?_
  refine pk_guard_yes rfl rfl rfl ?_
  refine pk_val rfl rfl rfl (val_move rfl rfl) ?_
  refine pk_guard_yes rfl rfl rfl ?_
  refine pk_val rfl rfl rfl (val_move rfl rfl) ?_
  refine pk_guard_yes rfl rfl rfl ?_
  refine pk_val rfl rfl rfl (val_len_slice rfl Try.underlying44 rfl) ?_
  refine pk_guard_yes rfl rfl rfl ?_
  refine pk_val rfl rfl rfl (val_add rfl rfl rfl (by omega)) ?_
  refine pk_guard_yes rfl rfl rfl ?_
  refine pk_val rfl rfl rfl (val_indexAddr rfl Try.underlying44 2 (by kernel_rfl) rfl rfl (ps.length + 1) rfl (by omega) (Ent.pure hn2)) ?_
  refine pk_guard_yes rfl rfl rfl ?_
  refine pk_val rfl rfl rfl (val_fieldAddr rfl Try.underlying47 0 1 (by kernel_rfl) (by decide) rfl (Ent.pure (by first | rfl | assumption))) ?_
  refine pk_guard_yes rfl rfl rfl ?_
  refine pk_val rfl rfl rfl (val_load (v := .string roS) rfl Try.underlying9 rfl rfl ((Ent.own 9 rfl).rd (get_sp ps 2 _ rfl _ (by omega)))) ?_
  refine pk_guard_yes rfl rfl rfl ?_
  refine pk_val rfl rfl rfl (val_str_neq rfl rfl rfl) ?_
  refine Pk.slot 123 (v := .bool false) rfl (congrArg Value.bool (decide_eq_false (fun h => h rfl))) ?_
  refine pk_val rfl rfl rfl (val_pick rfl rfl rfl rfl) ?_
  refine pk_val rfl rfl rfl (val_move rfl rfl) ?_
  refine pk_guard_yes rfl rfl rfl ?_
  refine pk_val rfl rfl rfl (val_move rfl rfl) ?_
  refine pk_guard_yes rfl rfl rfl ?_
  refine pk_val rfl rfl rfl (val_len_slice rfl Try.underlying48 rfl) ?_
  refine pk_guard_yes rfl rfl rfl ?_
  refine pk_val rfl rfl rfl (val_move rfl rfl) ?_
  refine pk_guard_yes rfl rfl rfl ?_
  refine pk_val rfl rfl rfl (val_len_slice rfl Try.underlying48 rfl) ?_
  refine pk_guard_yes rfl rfl rfl ?_
  refine pk_val rfl rfl rfl (val_neq rfl rfl rfl) ?_
  refine Pk.slot 130 (v := .bool false) rfl (congrArg Value.bool (decide_eq_false (by omega))) ?_
  refine pk_val rfl rfl rfl (val_pick rfl rfl rfl rfl) ?_
  refine pk_val rfl rfl rfl (val_move rfl rfl) ?_
  refine pk_guard_yes rfl rfl rfl ?_
  refine pk_val rfl rfl rfl (val_move rfl rfl) ?_
  refine pk_guard_yes rfl rfl rfl ?_
  refine pk_val rfl rfl rfl (val_len_slice rfl Try.underlying51 rfl) ?_
  refine pk_guard_yes rfl rfl rfl ?_
  refine pk_val rfl rfl rfl (val_move rfl rfl) ?_
  refine pk_guard_yes rfl rfl rfl ?_
  refine pk_val rfl rfl rfl (val_len_slice rfl Try.underlying51 rfl) ?_
  refine pk_guard_yes rfl rfl rfl ?_
  refine pk_val rfl rfl rfl (val_neq rfl rfl rfl) ?_
  refine Pk.slot 137 (v := .bool false) rfl (congrArg Value.bool (decide_eq_false (by omega))) ?_
  refine pk_val rfl rfl rfl (val_pick rfl rfl rfl rfl) ?_
  refine pk_nil ?_
  refine thru_on ?_
  refine pk_cond_f rfl ?_
  refine pk_skip ?_
  refine thru_on ?_
  refine pk_seq ?_
  refine pk_seq ?_
  refine pk_region ?_
  refine pk_val rfl rfl rfl (val_assign rfl rfl) ?_
  refine pk_nil ?_
  refine thru_on ?_
  refine pk_block ?_
  refine pk_loop (α := Nat) (0) (fun k => [(0, .slice K ks.length kc), (1, .slice Pp ps.length pc), (2, .int .i64 (parts : Nat)), (9, .slice q48.1 q48.2.2.length q48.2.1), (11, .slice q57.1 q57.2.2.length q57.2.1), (13, .slice q66.1 q66.2.2.length q66.2.1), (15, .slice q75.1 q75.2.2.length q75.2.1), (7, .slice q35.1 (ks.length + 2) q35.2), (8, .slice q41.1 (ps.length + 2) q41.2), (17, .int .i64 (k : Nat))]) (fun k => (rowAny 9 1 ⟨q35.1, ks.length + 2, q35.2⟩) :: (rowAny 47 2 ⟨q41.1, ps.length + 2, q41.2⟩) :: (own q75.1 q75.2.2.length q75.2.1 59 2 (q75.2.2.flatMap GR.cells)) :: (cat (q75.2.2.map (grCh 47 2 pC2))) :: (own q66.1 q66.2.2.length q66.2.1 59 2 (q66.2.2.flatMap GR.cells)) :: (cat (q66.2.2.map (grCh 47 2 pC2))) :: (own q57.1 q57.2.2.length q57.2.1 57 2 (q57.2.2.flatMap GR.cells)) :: (cat (q57.2.2.map (grCh 9 1 sC1))) :: (own q48.1 q48.2.2.length q48.2.1 57 2 (q48.2.2.flatMap GR.cells)) :: (cat (q48.2.2.map (grCh 9 1 sC1))) :: L) (fun k => True) (fun k => ks.length - k) ?_ ?_ ?_ ?_
  · (try dsimp only) <;> exact trivial
  · exact ⟨(Sub.cons rfl (by first | rfl | (congr 1; omega) | simp) (Sub.cons rfl (by first | rfl | (congr 1; omega) | simp) (Sub.cons rfl (by first | rfl | (congr 1; omega) | simp) (Sub.cons rfl (by first | rfl | (congr 1; omega) | simp) (Sub.cons rfl (by first | rfl | (congr 1; omega) | simp) (Sub.cons rfl (by first | rfl | (congr 1; omega) | simp) (Sub.cons rfl (by first | rfl | (congr 1; omega) | simp) (Sub.cons rfl (by first | rfl | (congr 1; omega) | simp) (Sub.cons rfl (by first | rfl | (congr 1; omega) | simp) (Sub.cons rfl (by first | rfl | (congr 1; omega) | simp) (Sub.nil _))))))))))), rfl⟩
  · exact (fun _ h => by
    have h1 := ((Sats.pick 12 [11, 9, 0, 1, 2, 3, 4, 5, 6, 7] rfl h :))
    exact Sats.head (fun _ o => ⟨_, by rw [List.length_append, List.length_map, Nat.mul_one]; rfl, o⟩) (Sats.under (fun _ h => Sats.head (fun _ o => ⟨_, by rw [List.length_append, flat_length pC2_len, Nat.add_mul]; rfl, o⟩) h) h1))
  rintro k _
  refine pk_seq ?_
  refine pk_seq ?_
  refine pk_region ?_
  refine pk_val rfl rfl rfl (val_move rfl rfl) ?_
  refine pk_val rfl rfl rfl (val_move rfl rfl) ?_
  refine pk_val rfl rfl rfl (val_len_slice rfl Try.underlying34 rfl) ?_
  refine pk_val rfl rfl rfl (val_lss rfl rfl rfl) ?_
  refine pk_nil ?_
  refine thru_on ?_
  refine pk_if rfl (fun h1 => ?_) (fun h1 => ?_)
  · skip
    refine pk_skip ?_
    refine thru_on ?_
    have hk : k < ks.length := by omega
    refine Pk.rowAny fun ys hys => ?_
    dsimp only at hys
    refine Pk.tells ((Ent.own 0 rfl).some_of (by omega)) fun hR => ?_
    refine pk_seq ?_
    refine pk_block ?_
    refine pk_region ?_
    refine pk_val rfl rfl rfl (val_move rfl rfl) ?_
    refine pk_val rfl rfl rfl (val_move rfl rfl) ?_
    refine pk_val rfl rfl rfl (val_indexAddr rfl Try.underlying34 1 (by kernel_rfl) rfl rfl k rfl (by omega) (Ent.pure hR)) ?_
    refine pk_eff0 (eff_store 0 rfl rfl rfl rfl rfl (by kernel_rfl) rfl (by simp only [List.length_singleton]; omega) (by simp)) rfl rfl (fun _ _ => ?_)
    refine pk_nil ?_
    refine in_on ?_
    refine thru_on ?_
    refine pk_region ?_
    refine pk_val rfl rfl rfl (val_move rfl rfl) ?_
    refine pk_val rfl rfl rfl (val_add rfl rfl rfl (by omega)) ?_
    refine pk_val rfl rfl rfl (val_assign rfl rfl) ?_
    refine pk_nil ?_
    refine thru_on ?_
    refine pk_next (x := k) (k + 1) ?_ ?_ ?_ ?_
    · (try dsimp only) <;> exact trivial
    · (try dsimp only); exact (by omega)
    · exact ⟨(Sub.cons rfl (by first | rfl | (congr 1; omega) | simp) (Sub.cons rfl (by first | rfl | (congr 1; omega) | simp) (Sub.cons rfl (by first | rfl | (congr 1; omega) | simp) (Sub.cons rfl (by first | rfl | (congr 1; omega) | simp) (Sub.cons rfl (by first | rfl | (congr 1; omega) | simp) (Sub.cons rfl (by first | rfl | (congr 1; omega) | simp) (Sub.cons rfl (by first | rfl | (congr 1; omega) | simp) (Sub.cons rfl (by first | rfl | (congr 1; omega) | simp) (Sub.cons rfl (by first | rfl | (congr 1; omega) | simp) (Sub.cons rfl (by first | rfl | (congr 1; omega) | simp) (Sub.nil _))))))))))), rfl⟩
    · exact (fun _ h => Sats.head (fun _ o => ⟨_, by rw [splice_length (by simp only [List.length_singleton]; omega)]; exact hys, o⟩) h)
  · skip
    refine pk_exit ?_
    refine thru ?_
    refine thru ?_
    refine pk_here ?_
    refine thru_on ?_
    refine pk_seq ?_
    refine pk_seq ?_
    refine pk_region ?_
    refine pk_val rfl rfl rfl (val_assign rfl rfl) ?_
    refine pk_nil ?_
    refine thru_on ?_
    refine pk_block ?_
    refine pk_loop (α := Nat) (0) (fun k => [(0, .slice K ks.length kc), (1, .slice Pp ps.length pc), (2, .int .i64 (parts : Nat)), (9, .slice q48.1 q48.2.2.length q48.2.1), (11, .slice q57.1 q57.2.2.length q57.2.1), (13, .slice q66.1 q66.2.2.length q66.2.1), (15, .slice q75.1 q75.2.2.length q75.2.1), (8, .slice q41.1 (ps.length + 2) q41.2), (18, .int .i64 (k : Nat))]) (fun k => (rowAny 47 2 ⟨q41.1, ps.length + 2, q41.2⟩) :: (own q75.1 q75.2.2.length q75.2.1 59 2 (q75.2.2.flatMap GR.cells)) :: (cat (q75.2.2.map (grCh 47 2 pC2))) :: (own q66.1 q66.2.2.length q66.2.1 59 2 (q66.2.2.flatMap GR.cells)) :: (cat (q66.2.2.map (grCh 47 2 pC2))) :: (own q57.1 q57.2.2.length q57.2.1 57 2 (q57.2.2.flatMap GR.cells)) :: (cat (q57.2.2.map (grCh 9 1 sC1))) :: (own q48.1 q48.2.2.length q48.2.1 57 2 (q48.2.2.flatMap GR.cells)) :: (cat (q48.2.2.map (grCh 9 1 sC1))) :: L) (fun k => True) (fun k => ps.length - k) ?_ ?_ ?_ ?_
    · (try dsimp only) <;> exact trivial
    · exact ⟨(Sub.cons rfl (by first | rfl | (congr 1; omega) | simp) (Sub.cons rfl (by first | rfl | (congr 1; omega) | simp) (Sub.cons rfl (by first | rfl | (congr 1; omega) | simp) (Sub.cons rfl (by first | rfl | (congr 1; omega) | simp) (Sub.cons rfl (by first | rfl | (congr 1; omega) | simp) (Sub.cons rfl (by first | rfl | (congr 1; omega) | simp) (Sub.cons rfl (by first | rfl | (congr 1; omega) | simp) (Sub.cons rfl (by first | rfl | (congr 1; omega) | simp) (Sub.cons rfl (by first | rfl | (congr 1; omega) | simp) (Sub.nil _)))))))))), rfl⟩
    · exact (fun _ h => Sats.keep [false, true, true, true, true, true, true, true, true, true] h)
    rintro k _
    refine pk_seq ?_
    refine pk_seq ?_
    refine pk_region ?_
    refine pk_val rfl rfl rfl (val_move rfl rfl) ?_
    refine pk_val rfl rfl rfl (val_move rfl rfl) ?_
    refine pk_val rfl rfl rfl (val_len_slice rfl Try.underlying44 rfl) ?_
    refine pk_val rfl rfl rfl (val_lss rfl rfl rfl) ?_
    refine pk_nil ?_
    refine thru_on ?_
    refine pk_if rfl (fun h2 => ?_) (fun h2 => ?_)
    · skip
      refine pk_skip ?_
      refine thru_on ?_
      have hk : k < ps.length := by omega
      refine Pk.rowAny fun ys hys => ?_
      dsimp only at hys
      refine Pk.tells ((Ent.own 0 rfl).some_of (by omega)) fun hR => ?_
      refine pk_seq ?_
      refine pk_block ?_
      refine pk_region ?_
      refine pk_val rfl rfl rfl (val_move rfl rfl) ?_
      refine pk_val rfl rfl rfl (val_move rfl rfl) ?_
      refine pk_val rfl rfl rfl (val_build (z := [.string ⟨#[]⟩, .string ⟨#[]⟩]) [(0, 1), (1, 1)] rfl Try.underlying47 (by kernel_rfl) (by kernel_rfl) rfl rfl rfl) ?_
      refine pk_val rfl rfl rfl (val_indexAddr rfl Try.underlying44 2 (by kernel_rfl) rfl rfl k rfl (by omega) (Ent.pure hR)) ?_
      refine pk_eff0 (eff_store (vs := [.string ⟨#[63]⟩, .string ⟨#[]⟩]) 0 rfl rfl rfl rfl rfl (by kernel_rfl) rfl (by simp; omega) (by simp)) rfl rfl (fun _ _ => ?_)
      refine pk_nil ?_
      refine in_on ?_
      refine thru_on ?_
      refine pk_region ?_
      refine pk_val rfl rfl rfl (val_move rfl rfl) ?_
      refine pk_val rfl rfl rfl (val_add rfl rfl rfl (by omega)) ?_
      refine pk_val rfl rfl rfl (val_assign rfl rfl) ?_
      refine pk_nil ?_
      refine thru_on ?_
      refine pk_next (x := k) (k + 1) ?_ ?_ ?_ ?_
      · (try dsimp only) <;> exact trivial
      · (try dsimp only); exact (by omega)
      · exact ⟨(Sub.cons rfl (by first | rfl | (congr 1; omega) | simp) (Sub.cons rfl (by first | rfl | (congr 1; omega) | simp) (Sub.cons rfl (by first | rfl | (congr 1; omega) | simp) (Sub.cons rfl (by first | rfl | (congr 1; omega) | simp) (Sub.cons rfl (by first | rfl | (congr 1; omega) | simp) (Sub.cons rfl (by first | rfl | (congr 1; omega) | simp) (Sub.cons rfl (by first | rfl | (congr 1; omega) | simp) (Sub.cons rfl (by first | rfl | (congr 1; omega) | simp) (Sub.cons rfl (by first | rfl | (congr 1; omega) | simp) (Sub.nil _)))))))))), rfl⟩
      · exact (fun _ h => Sats.head (fun _ o => ⟨_, by rw [splice_length (by simp; omega)]; exact hys, o⟩) h)
    · skip
      refine Pk.heap (fun _ h => h.tail) ?_
      refine pk_exit ?_
      refine thru ?_
      refine thru ?_
      refine pk_here ?_
      refine thru_on ?_
      refine pk_seq ?_
      refine pk_region ?_
      refine pk_val rfl rfl rfl (val_move rfl rfl) ?_
      refine pk_val rfl rfl rfl (val_move rfl rfl) ?_
      refine pk_eff (eff_callx rfl ⟨_, Try.func14, by kernel_rfl, rfl⟩ rfl (fun E w s => shard_Group_c (xs := ks) s hK.cons.cons.cons.cons.cons.cons.cons.cons hks (by omega) hmp)) rfl rfl rfl (fun q161 hq161 => ?_)
      refine pk_val rfl rfl rfl (val_move rfl rfl) ?_
      refine pk_val rfl rfl rfl (val_extract rfl rfl rfl) ?_
      refine pk_val rfl rfl rfl (val_extract rfl rfl rfl) ?_
      refine pk_val rfl rfl rfl (val_assign rfl rfl) ?_
      refine pk_val rfl rfl rfl (val_assign rfl rfl) ?_
      refine pk_nil ?_
      refine thru_on ?_
      refine pk_seq ?_
      refine pk_region ?_
      refine pk_val rfl rfl rfl (val_move rfl rfl) ?_
      refine pk_val rfl rfl rfl (val_move rfl rfl) ?_
      refine pk_eff (eff_callx rfl ⟨_, Try.func15, by kernel_rfl, rfl⟩ rfl (fun E w s => shard_GroupPairs_c (xs := ps) s hP.cons.cons.cons.cons.cons.cons.cons.cons.cons.cons hpss (by omega) hmp)) rfl rfl rfl (fun q167 hq167 => ?_)
      refine pk_val rfl rfl rfl (val_move rfl rfl) ?_
      refine pk_val rfl rfl rfl (val_extract rfl rfl rfl) ?_
      refine pk_val rfl rfl rfl (val_extract rfl rfl rfl) ?_
      refine pk_val rfl rfl rfl (val_assign rfl rfl) ?_
      refine pk_val rfl rfl rfl (val_assign rfl rfl) ?_
      refine pk_nil ?_
      refine thru_on ?_
      refine pk_seq ?_
      refine pk_seq ?_
      refine pk_region ?_
      have e48161 := hq48.1.trans hq161.1.symm
      have e66167 := hq66.1.trans hq167.1.symm
      have hac48 := ga_len e48161
      have hac66 := ga_len e66167
      have e57161 := hq57.1.trans hq161.1.symm
      have e75167 := hq75.1.trans hq167.1.symm
      refine pk_val rfl rfl rfl (val_move rfl rfl) ?_
      refine pk_val rfl rfl rfl (val_len_slice rfl Try.underlying48 rfl) ?_
      refine pk_val rfl rfl rfl (val_move rfl rfl) ?_
      refine pk_val rfl rfl rfl (val_len_slice rfl Try.underlying48 rfl) ?_
      refine pk_val rfl rfl rfl (val_neq rfl rfl rfl) ?_
      refine Pk.slot 174 (v := .bool false) rfl (congrArg Value.bool (decide_eq_false (by omega))) ?_
      refine pk_val rfl rfl rfl (val_move rfl rfl) ?_
      refine pk_guard_yes rfl rfl rfl ?_
      refine pk_val rfl rfl rfl (val_move rfl rfl) ?_
      refine pk_guard_yes rfl rfl rfl ?_
      refine pk_val rfl rfl rfl (val_len_slice rfl Try.underlying51 rfl) ?_
      refine pk_guard_yes rfl rfl rfl ?_
      refine pk_val rfl rfl rfl (val_move rfl rfl) ?_
      refine pk_guard_yes rfl rfl rfl ?_
      refine pk_val rfl rfl rfl (val_len_slice rfl Try.underlying51 rfl) ?_
      refine pk_guard_yes rfl rfl rfl ?_
      refine pk_val rfl rfl rfl (val_neq rfl rfl rfl) ?_
      refine Pk.slot 180 (v := .bool false) rfl (congrArg Value.bool (decide_eq_false (by omega))) ?_
      refine pk_val rfl rfl rfl (val_pick rfl rfl rfl rfl) ?_
      refine pk_nil ?_
      refine thru_on ?_
      refine pk_cond_f rfl ?_
      refine pk_skip ?_
      refine thru_on ?_
      refine pk_seq ?_
      refine pk_seq ?_
      refine pk_region ?_
      refine pk_val rfl rfl rfl (val_assign rfl rfl) ?_
      refine pk_nil ?_
      refine thru_on ?_
      refine pk_block ?_
      refine pk_loop (α := Nat) (0) (fun k => [(9, .slice q48.1 q48.2.2.length q48.2.1), (11, .slice q57.1 q57.2.2.length q57.2.1), (13, .slice q66.1 q66.2.2.length q66.2.1), (15, .slice q75.1 q75.2.2.length q75.2.1), (19, .slice q161.1 q161.2.2.length q161.2.1), (21, .slice q167.1 q167.2.2.length q167.2.1), (23, .int .i64 (k : Nat))]) (fun k => (own q167.1 q167.2.2.length q167.2.1 59 2 (q167.2.2.flatMap GR.cells)) :: (cat (q167.2.2.map (grCh 47 2 pC2))) :: (own q161.1 q161.2.2.length q161.2.1 57 2 (q161.2.2.flatMap GR.cells)) :: (cat (q161.2.2.map (grCh 9 1 sC1))) :: (own q75.1 q75.2.2.length q75.2.1 59 2 (q75.2.2.flatMap GR.cells)) :: (cat (q75.2.2.map (grCh 47 2 pC2))) :: (own q66.1 q66.2.2.length q66.2.1 59 2 (q66.2.2.flatMap GR.cells)) :: (cat (q66.2.2.map (grCh 47 2 pC2))) :: (own q57.1 q57.2.2.length q57.2.1 57 2 (q57.2.2.flatMap GR.cells)) :: (cat (q57.2.2.map (grCh 9 1 sC1))) :: (own q48.1 q48.2.2.length q48.2.1 57 2 (q48.2.2.flatMap GR.cells)) :: (cat (q48.2.2.map (grCh 9 1 sC1))) :: L) (fun k => k ≤ q48.2.2.length) (fun k => q48.2.2.length - k) ?_ ?_ ?_ ?_
      · (try dsimp only) <;> exact Nat.zero_le _
      · exact ⟨(Sub.cons rfl (by first | rfl | (congr 1; omega) | simp) (Sub.cons rfl (by first | rfl | (congr 1; omega) | simp) (Sub.cons rfl (by first | rfl | (congr 1; omega) | simp) (Sub.cons rfl (by first | rfl | (congr 1; omega) | simp) (Sub.cons rfl (by first | rfl | (congr 1; omega) | simp) (Sub.cons rfl (by first | rfl | (congr 1; omega) | simp) (Sub.cons rfl (by first | rfl | (congr 1; omega) | simp) (Sub.nil _)))))))), rfl⟩
      · exact (fun _ h => h)
      rintro k hk0
      refine pk_seq ?_
      refine pk_seq ?_
      refine pk_region ?_
      refine pk_val rfl rfl rfl (val_move rfl rfl) ?_
      refine pk_val rfl rfl rfl (val_move rfl rfl) ?_
      refine pk_val rfl rfl rfl (val_len_slice rfl Try.underlying48 rfl) ?_
      refine pk_val rfl rfl rfl (val_lss rfl rfl rfl) ?_
      refine pk_nil ?_
      refine thru_on ?_
      refine pk_if rfl (fun h1 => ?_) (fun h1 => ?_)
      · skip
        refine pk_skip ?_
        refine thru_on ?_
        have hk : k < q48.2.2.length := by omega
        have hkc := ga_same e48161 hk
        have hkb := ga_same e4857 hk
        have hkc2 := hkc.1
        have hkb2 := hkb.1
        refine Pk.tells ((Ent.own 10 rfl).some_of (by rw [gr_len]; omega)) fun hA48 => ?_
        refine Pk.tells ((Ent.own 8 rfl).some_of (by rw [gr_len]; omega)) fun hA57 => ?_
        refine Pk.tells ((Ent.own 2 rfl).some_of (by rw [gr_len]; omega)) fun hA161 => ?_
        refine pk_seq ?_
        refine pk_block ?_
        refine pk_seq ?_
        refine pk_drawk (.val 0 (.val 1 (.val 2 (.val 3 (.val 4 (.val 5 (.val 6 (.val 7 (.val 8 (.val 9 (.eff 10 (.val 11 (.val 12 (.val 13 (.val 14 (.val 15 (.val 16 (.val 17 (.val 18 (.val 19 (.val 20 (.val 21 (.val 22 (.eff 23 (.val 24 (.val 25 .nil)))))))))))))))))))))))))) 1026 [] rfl (by kernel_rfl) (fun _ _ _ _ _ h => h) ?_
        refine ord_val rfl rfl rfl rfl (fun _ h => h) (val_move rfl rfl) ?_
        refine ord_val rfl rfl rfl rfl (fun _ h => h) (val_move rfl rfl) ?_
        refine ord_val rfl rfl rfl rfl (fun _ h => h) (val_indexAddr rfl Try.underlying48 2 (by kernel_rfl) rfl rfl k rfl hk (Ent.pure hA48)) ?_
        refine ord_val rfl rfl rfl rfl (fun _ h => h) (val_fieldAddr rfl Try.underlying57 1 1 (by kernel_rfl) (by decide) rfl (Ent.pure (by first | rfl | assumption))) ?_
        refine ord_val rfl rfl rfl rfl (fun _ h => h) (val_load (v := .slice (q48.2.2.getD k dGR).A (q48.2.2.getD k dGR).l.length (q48.2.2.getD k dGR).c) rfl Try.underlying34 rfl rfl ((Ent.own 10 rfl).rd ((get_flat (k := k) GR.cells_len dGR hk (by decide)).trans rfl))) ?_
        refine ord_val rfl rfl rfl rfl (fun _ h => h) (val_move rfl rfl) ?_
        refine ord_val rfl rfl rfl rfl (fun _ h => h) (val_move rfl rfl) ?_
        refine ord_val rfl rfl rfl rfl (fun _ h => h) (val_indexAddr rfl Try.underlying48 2 (by kernel_rfl) rfl rfl k rfl hkc2 (Ent.pure hA161)) ?_
        refine ord_val rfl rfl rfl rfl (fun _ h => h) (val_fieldAddr rfl Try.underlying57 1 1 (by kernel_rfl) (by decide) rfl (Ent.pure (by first | rfl | assumption))) ?_
        refine ord_val rfl rfl rfl rfl (fun _ h => h) (val_load (v := .slice (q161.2.2.getD k dGR).A (q161.2.2.getD k dGR).l.length (q161.2.2.getD k dGR).c) rfl Try.underlying34 rfl rfl ((Ent.own 2 rfl).rd ((get_flat (k := k) GR.cells_len dGR hkc2 (by decide)).trans rfl))) ?_
        refine ord_eff (eff_call1 rfl ⟨_, Try.func17, by kernel_rfl, rfl⟩ rfl (fun E w s => law05_same_c s (by rw [← sC1_map]; exact grCh_rd 11 rfl hk) (by rw [← sC1_map]; exact grCh_rd 3 rfl hkc2) rfl rfl (by have := hkl48 _ (getD_mem dGR hk); omega))) rfl rfl rfl rfl (.inr fun _ _ => (fun _ h => h)) (fun _ _ => ?_)
        refine Pk.slot 198 (v := .bool true) rfl (congrArg Value.bool (decide_eq_true hkc.2)) ?_
        refine ord_val rfl rfl rfl rfl (fun _ h => h) (val_not rfl rfl) ?_
        refine ord_val rfl rfl rfl rfl (fun _ h => h) (val_move rfl rfl) ?_
        refine ord_val_yes rfl rfl rfl rfl rfl rfl (fun _ h => h) (val_move rfl rfl) ?_
        refine ord_val_yes rfl rfl rfl rfl rfl rfl (fun _ h => h) (val_move rfl rfl) ?_
        refine ord_val_yes rfl rfl rfl rfl rfl rfl (fun _ h => h) (val_indexAddr rfl Try.underlying48 2 (by kernel_rfl) rfl rfl k rfl hkb2 (Ent.pure hA57)) ?_
        refine ord_val_yes rfl rfl rfl rfl rfl rfl (fun _ h => h) (val_fieldAddr rfl Try.underlying57 1 1 (by kernel_rfl) (by decide) rfl (Ent.pure (by first | rfl | assumption))) ?_
        refine ord_val_yes rfl rfl rfl rfl rfl rfl (fun _ h => h) (val_load (v := .slice (q57.2.2.getD k dGR).A (q57.2.2.getD k dGR).l.length (q57.2.2.getD k dGR).c) rfl Try.underlying34 rfl rfl ((Ent.own 8 rfl).rd ((get_flat (k := k) GR.cells_len dGR hkb2 (by decide)).trans rfl))) ?_
        refine ord_val_yes rfl rfl rfl rfl rfl rfl (fun _ h => h) (val_move rfl rfl) ?_
        refine ord_val_yes rfl rfl rfl rfl rfl rfl (fun _ h => h) (val_move rfl rfl) ?_
        refine ord_val_yes rfl rfl rfl rfl rfl rfl (fun _ h => h) (val_indexAddr rfl Try.underlying48 2 (by kernel_rfl) rfl rfl k rfl hkc2 (Ent.pure hA161)) ?_
        refine ord_val_yes rfl rfl rfl rfl rfl rfl (fun _ h => h) (val_fieldAddr rfl Try.underlying57 1 1 (by kernel_rfl) (by decide) rfl (Ent.pure (by first | rfl | assumption))) ?_
        refine ord_val_yes rfl rfl rfl rfl rfl rfl (fun _ h => h) (val_load (v := .slice (q161.2.2.getD k dGR).A (q161.2.2.getD k dGR).l.length (q161.2.2.getD k dGR).c) rfl Try.underlying34 rfl rfl ((Ent.own 2 rfl).rd ((get_flat (k := k) GR.cells_len dGR hkc2 (by decide)).trans rfl))) ?_
        refine ord_eff_yes (eff_call1 rfl ⟨_, Try.func17, by kernel_rfl, rfl⟩ rfl (fun E w s => law05_same_c s (by rw [← sC1_map]; exact grCh_rd 9 rfl hkb2) (by rw [← sC1_map]; exact grCh_rd 3 rfl hkc2) rfl rfl (by have := hkl57 _ (getD_mem dGR hkb2); omega))) rfl rfl rfl rfl rfl rfl (.inr fun _ _ => (fun _ h => h)) (fun _ _ => ?_)
        refine Pk.slot 211 (v := .bool true) rfl (congrArg Value.bool (decide_eq_true (hkb.2.symm.trans hkc.2))) ?_
        refine ord_val_yes rfl rfl rfl rfl rfl rfl (fun _ h => h) (val_not rfl rfl) ?_
        refine ord_val rfl rfl rfl rfl (fun _ h => h) (val_pick rfl rfl rfl rfl) ?_
        refine ord_nil ?_
        refine thru_on ?_
        refine pk_cond_f rfl ?_
        refine pk_skip ?_
        refine in_on ?_
        refine thru_on ?_
        refine pk_region ?_
        refine pk_val rfl rfl rfl (val_move rfl rfl) ?_
        refine pk_val rfl rfl rfl (val_add rfl rfl rfl (by omega)) ?_
        refine pk_val rfl rfl rfl (val_assign rfl rfl) ?_
        refine pk_nil ?_
        refine thru_on ?_
        refine pk_next (x := k) (k + 1) ?_ ?_ ?_ ?_
        · (try dsimp only) <;> exact hk
        · (try dsimp only); exact (by omega)
        · exact ⟨(Sub.cons rfl (by first | rfl | (congr 1; omega) | simp) (Sub.cons rfl (by first | rfl | (congr 1; omega) | simp) (Sub.cons rfl (by first | rfl | (congr 1; omega) | simp) (Sub.cons rfl (by first | rfl | (congr 1; omega) | simp) (Sub.cons rfl (by first | rfl | (congr 1; omega) | simp) (Sub.cons rfl (by first | rfl | (congr 1; omega) | simp) (Sub.cons rfl (by first | rfl | (congr 1; omega) | simp) (Sub.nil _)))))))), rfl⟩
        · exact (fun _ h => h)
      · skip
        refine pk_exit ?_
        refine thru ?_
        refine thru ?_
        refine pk_here ?_
        refine thru_on ?_
        refine pk_seq ?_
        refine pk_seq ?_
        refine pk_region ?_
        refine pk_val rfl rfl rfl (val_assign rfl rfl) ?_
        refine pk_nil ?_
        refine thru_on ?_
        refine pk_block ?_
        refine pk_loop (α := Nat) (0) (fun k => [(9, .slice q48.1 q48.2.2.length q48.2.1), (11, .slice q57.1 q57.2.2.length q57.2.1), (13, .slice q66.1 q66.2.2.length q66.2.1), (15, .slice q75.1 q75.2.2.length q75.2.1), (19, .slice q161.1 q161.2.2.length q161.2.1), (21, .slice q167.1 q167.2.2.length q167.2.1), (24, .int .i64 (k : Nat))]) (fun k => (own q167.1 q167.2.2.length q167.2.1 59 2 (q167.2.2.flatMap GR.cells)) :: (cat (q167.2.2.map (grCh 47 2 pC2))) :: (own q161.1 q161.2.2.length q161.2.1 57 2 (q161.2.2.flatMap GR.cells)) :: (cat (q161.2.2.map (grCh 9 1 sC1))) :: (own q75.1 q75.2.2.length q75.2.1 59 2 (q75.2.2.flatMap GR.cells)) :: (cat (q75.2.2.map (grCh 47 2 pC2))) :: (own q66.1 q66.2.2.length q66.2.1 59 2 (q66.2.2.flatMap GR.cells)) :: (cat (q66.2.2.map (grCh 47 2 pC2))) :: (own q57.1 q57.2.2.length q57.2.1 57 2 (q57.2.2.flatMap GR.cells)) :: (cat (q57.2.2.map (grCh 9 1 sC1))) :: (own q48.1 q48.2.2.length q48.2.1 57 2 (q48.2.2.flatMap GR.cells)) :: (cat (q48.2.2.map (grCh 9 1 sC1))) :: L) (fun k => k ≤ q66.2.2.length) (fun k => q66.2.2.length - k) ?_ ?_ ?_ ?_
        · (try dsimp only) <;> exact Nat.zero_le _
        · exact ⟨(Sub.cons rfl (by first | rfl | (congr 1; omega) | simp) (Sub.cons rfl (by first | rfl | (congr 1; omega) | simp) (Sub.cons rfl (by first | rfl | (congr 1; omega) | simp) (Sub.cons rfl (by first | rfl | (congr 1; omega) | simp) (Sub.cons rfl (by first | rfl | (congr 1; omega) | simp) (Sub.cons rfl (by first | rfl | (congr 1; omega) | simp) (Sub.cons rfl (by first | rfl | (congr 1; omega) | simp) (Sub.nil _)))))))), rfl⟩
        · exact (fun _ h => h)
        rintro k hk0
        refine pk_seq ?_
        refine pk_seq ?_
        refine pk_region ?_
        refine pk_val rfl rfl rfl (val_move rfl rfl) ?_
        refine pk_val rfl rfl rfl (val_move rfl rfl) ?_
        refine pk_val rfl rfl rfl (val_len_slice rfl Try.underlying51 rfl) ?_
        refine pk_val rfl rfl rfl (val_lss rfl rfl rfl) ?_
        refine pk_nil ?_
        refine thru_on ?_
        refine pk_if rfl (fun h1 => ?_) (fun h1 => ?_)
        · skip
          refine pk_skip ?_
          refine thru_on ?_
          have hk : k < q66.2.2.length := by omega
          have hkc := ga_same e66167 hk
          have hkb := ga_same e6675 hk
          have hkc2 := hkc.1
          have hkb2 := hkb.1
          refine Pk.tells ((Ent.own 6 rfl).some_of (by rw [gr_len]; omega)) fun hA66 => ?_
          refine Pk.tells ((Ent.own 4 rfl).some_of (by rw [gr_len]; omega)) fun hA75 => ?_
          refine Pk.tells ((Ent.own 0 rfl).some_of (by rw [gr_len]; omega)) fun hA167 => ?_
          refine pk_seq ?_
          refine pk_block ?_
          refine pk_seq ?_
          refine pk_drawk (.val 0 (.val 1 (.val 2 (.val 3 (.val 4 (.val 5 (.val 6 (.val 7 (.val 8 (.val 9 (.eff 10 (.val 11 (.val 12 (.val 13 (.val 14 (.val 15 (.val 16 (.val 17 (.val 18 (.val 19 (.val 20 (.val 21 (.val 22 (.eff 23 (.val 24 (.val 25 .nil)))))))))))))))))))))))))) 1026 [] rfl (by kernel_rfl) (fun _ _ _ _ _ h => h) ?_
          refine ord_val rfl rfl rfl rfl (fun _ h => h) (val_move rfl rfl) ?_
          refine ord_val rfl rfl rfl rfl (fun _ h => h) (val_move rfl rfl) ?_
          refine ord_val rfl rfl rfl rfl (fun _ h => h) (val_indexAddr rfl Try.underlying51 2 (by kernel_rfl) rfl rfl k rfl hk (Ent.pure hA66)) ?_
          refine ord_val rfl rfl rfl rfl (fun _ h => h) (val_fieldAddr rfl Try.underlying59 1 1 (by kernel_rfl) (by decide) rfl (Ent.pure (by first | rfl | assumption))) ?_
          refine ord_val rfl rfl rfl rfl (fun _ h => h) (val_load (v := .slice (q66.2.2.getD k dGR).A (q66.2.2.getD k dGR).l.length (q66.2.2.getD k dGR).c) rfl Try.underlying44 rfl rfl ((Ent.own 6 rfl).rd ((get_flat (k := k) GR.cells_len dGR hk (by decide)).trans rfl))) ?_
          refine ord_val rfl rfl rfl rfl (fun _ h => h) (val_move rfl rfl) ?_
          refine ord_val rfl rfl rfl rfl (fun _ h => h) (val_move rfl rfl) ?_
          refine ord_val rfl rfl rfl rfl (fun _ h => h) (val_indexAddr rfl Try.underlying51 2 (by kernel_rfl) rfl rfl k rfl hkc2 (Ent.pure hA167)) ?_
          refine ord_val rfl rfl rfl rfl (fun _ h => h) (val_fieldAddr rfl Try.underlying59 1 1 (by kernel_rfl) (by decide) rfl (Ent.pure (by first | rfl | assumption))) ?_
          refine ord_val rfl rfl rfl rfl (fun _ h => h) (val_load (v := .slice (q167.2.2.getD k dGR).A (q167.2.2.getD k dGR).l.length (q167.2.2.getD k dGR).c) rfl Try.underlying44 rfl rfl ((Ent.own 0 rfl).rd ((get_flat (k := k) GR.cells_len dGR hkc2 (by decide)).trans rfl))) ?_
          refine ord_eff (eff_call1 rfl ⟨_, Try.func18, by kernel_rfl, rfl⟩ rfl (fun E w s => law05_samePairs_c s (grCh_rd 7 rfl hk) (grCh_rd 1 rfl hkc2) rfl rfl (by have := hkl66 _ (getD_mem dGR hk); omega))) rfl rfl rfl rfl (.inr fun _ _ => (fun _ h => h)) (fun _ _ => ?_)
          refine Pk.slot 230 (v := .bool true) rfl (congrArg Value.bool (decide_eq_true hkc.2)) ?_
          refine ord_val rfl rfl rfl rfl (fun _ h => h) (val_not rfl rfl) ?_
          refine ord_val rfl rfl rfl rfl (fun _ h => h) (val_move rfl rfl) ?_
          refine ord_val_yes rfl rfl rfl rfl rfl rfl (fun _ h => h) (val_move rfl rfl) ?_
          refine ord_val_yes rfl rfl rfl rfl rfl rfl (fun _ h => h) (val_move rfl rfl) ?_
          refine ord_val_yes rfl rfl rfl rfl rfl rfl (fun _ h => h) (val_indexAddr rfl Try.underlying51 2 (by kernel_rfl) rfl rfl k rfl hkb2 (Ent.pure hA75)) ?_
          refine ord_val_yes rfl rfl rfl rfl rfl rfl (fun _ h => h) (val_fieldAddr rfl Try.underlying59 1 1 (by kernel_rfl) (by decide) rfl (Ent.pure (by first | rfl | assumption))) ?_
          refine ord_val_yes rfl rfl rfl rfl rfl rfl (fun _ h => h) (val_load (v := .slice (q75.2.2.getD k dGR).A (q75.2.2.getD k dGR).l.length (q75.2.2.getD k dGR).c) rfl Try.underlying44 rfl rfl ((Ent.own 4 rfl).rd ((get_flat (k := k) GR.cells_len dGR hkb2 (by decide)).trans rfl))) ?_
          refine ord_val_yes rfl rfl rfl rfl rfl rfl (fun _ h => h) (val_move rfl rfl) ?_
          refine ord_val_yes rfl rfl rfl rfl rfl rfl (fun _ h => h) (val_move rfl rfl) ?_
          refine ord_val_yes rfl rfl rfl rfl rfl rfl (fun _ h => h) (val_indexAddr rfl Try.underlying51 2 (by kernel_rfl) rfl rfl k rfl hkc2 (Ent.pure hA167)) ?_
          refine ord_val_yes rfl rfl rfl rfl rfl rfl (fun _ h => h) (val_fieldAddr rfl Try.underlying59 1 1 (by kernel_rfl) (by decide) rfl (Ent.pure (by first | rfl | assumption))) ?_
          refine ord_val_yes rfl rfl rfl rfl rfl rfl (fun _ h => h) (val_load (v := .slice (q167.2.2.getD k dGR).A (q167.2.2.getD k dGR).l.length (q167.2.2.getD k dGR).c) rfl Try.underlying44 rfl rfl ((Ent.own 0 rfl).rd ((get_flat (k := k) GR.cells_len dGR hkc2 (by decide)).trans rfl))) ?_
          refine ord_eff_yes (eff_call1 rfl ⟨_, Try.func18, by kernel_rfl, rfl⟩ rfl (fun E w s => law05_samePairs_c s (grCh_rd 5 rfl hkb2) (grCh_rd 1 rfl hkc2) rfl rfl (by have := hkl75 _ (getD_mem dGR hkb2); omega))) rfl rfl rfl rfl rfl rfl (.inr fun _ _ => (fun _ h => h)) (fun _ _ => ?_)
          refine Pk.slot 243 (v := .bool true) rfl (congrArg Value.bool (decide_eq_true (hkb.2.symm.trans hkc.2))) ?_
          refine ord_val_yes rfl rfl rfl rfl rfl rfl (fun _ h => h) (val_not rfl rfl) ?_
          refine ord_val rfl rfl rfl rfl (fun _ h => h) (val_pick rfl rfl rfl rfl) ?_
          refine ord_nil ?_
          refine thru_on ?_
          refine pk_cond_f rfl ?_
          refine pk_skip ?_
          refine in_on ?_
          refine thru_on ?_
          refine pk_region ?_
          refine pk_val rfl rfl rfl (val_move rfl rfl) ?_
          refine pk_val rfl rfl rfl (val_add rfl rfl rfl (by omega)) ?_
          refine pk_val rfl rfl rfl (val_assign rfl rfl) ?_
          refine pk_nil ?_
          refine thru_on ?_
          refine pk_next (x := k) (k + 1) ?_ ?_ ?_ ?_
          · (try dsimp only) <;> exact hk
          · (try dsimp only); exact (by omega)
          · exact ⟨(Sub.cons rfl (by first | rfl | (congr 1; omega) | simp) (Sub.cons rfl (by first | rfl | (congr 1; omega) | simp) (Sub.cons rfl (by first | rfl | (congr 1; omega) | simp) (Sub.cons rfl (by first | rfl | (congr 1; omega) | simp) (Sub.cons rfl (by first | rfl | (congr 1; omega) | simp) (Sub.cons rfl (by first | rfl | (congr 1; omega) | simp) (Sub.cons rfl (by first | rfl | (congr 1; omega) | simp) (Sub.nil _)))))))), rfl⟩
          · exact (fun _ h => h)
        · skip
          refine Pk.nilrow 34 1 ?_
          refine Pk.nilrow 44 1 ?_
          refine pk_exit ?_
          refine thru ?_
          refine thru ?_
          refine pk_here ?_
          refine thru_on ?_
          refine pk_seq ?_
          refine pk_region ?_
          refine pk_val rfl rfl rfl (val_assign rfl rfl) ?_
          refine pk_nil ?_
          refine thru_on ?_
          refine pk_seq ?_
          refine pk_region ?_
          refine pk_val rfl rfl rfl (val_assign rfl rfl) ?_
          refine pk_nil ?_
          refine thru_on ?_
          refine pk_seq ?_
          refine pk_seq ?_
          refine pk_region ?_
          refine pk_val rfl rfl rfl (val_assign rfl rfl) ?_
          refine pk_nil ?_
          refine thru_on ?_
          refine pk_block ?_
          refine pk_loop (α := Nat × Option Addr × Nat) ((0, none, 0)) (fun y => [(9, .slice q48.1 q48.2.2.length q48.2.1), (11, .slice q57.1 q57.2.2.length q57.2.1), (13, .slice q66.1 q66.2.2.length q66.2.1), (15, .slice q75.1 q75.2.2.length q75.2.1), (26, .slice none 0 0), (25, .slice y.2.1 (2 * y.1) y.2.2), (27, .int .i64 (y.1 : Nat))]) (fun y => (own y.2.1 (2 * y.1) y.2.2 34 1 ((interR ((q48.2.2.map GR.row).take y.1) ((q57.2.2.map GR.row).take y.1)).map rowV)) :: (own none 0 0 44 1 []) :: (own q75.1 q75.2.2.length q75.2.1 59 2 (q75.2.2.flatMap GR.cells)) :: (cat (q75.2.2.map (grCh 47 2 pC2))) :: (own q66.1 q66.2.2.length q66.2.1 59 2 (q66.2.2.flatMap GR.cells)) :: (cat (q66.2.2.map (grCh 47 2 pC2))) :: (own q57.1 q57.2.2.length q57.2.1 57 2 (q57.2.2.flatMap GR.cells)) :: (cat (q57.2.2.map (grCh 9 1 sC1))) :: (own q48.1 q48.2.2.length q48.2.1 57 2 (q48.2.2.flatMap GR.cells)) :: (cat (q48.2.2.map (grCh 9 1 sC1))) :: L) (fun y => y.1 ≤ q48.2.2.length) (fun y => q48.2.2.length - y.1) ?_ ?_ ?_ ?_
          · (try dsimp only) <;> exact Nat.zero_le _
          · exact ⟨(Sub.cons rfl (by first | rfl | (congr 1; omega) | simp) (Sub.cons rfl (by first | rfl | (congr 1; omega) | simp) (Sub.cons rfl (by first | rfl | (congr 1; omega) | simp) (Sub.cons rfl (by first | rfl | (congr 1; omega) | simp) (Sub.cons rfl (by first | rfl | (congr 1; omega) | simp) (Sub.cons rfl (by first | rfl | (congr 1; omega) | simp) (Sub.cons rfl (by first | rfl | (congr 1; omega) | simp) (Sub.nil _)))))))), rfl⟩
          · exact (fun _ h => (Sats.pick 14 [1, 0, 6, 7, 8, 9, 10, 11, 12, 13] rfl h :))
          rintro ⟨k, q, d⟩ hk0
          dsimp only at hk0 ⊢
          refine pk_seq ?_
          refine pk_seq ?_
          refine pk_region ?_
          refine pk_val rfl rfl rfl (val_move rfl rfl) ?_
          refine pk_val rfl rfl rfl (val_move rfl rfl) ?_
          refine pk_val rfl rfl rfl (val_len_slice rfl Try.underlying48 rfl) ?_
          refine pk_val rfl rfl rfl (val_lss rfl rfl rfl) ?_
          refine pk_nil ?_
          refine thru_on ?_
          refine pk_if rfl (fun h1 => ?_) (fun h1 => ?_)
          · skip
            refine pk_skip ?_
            refine thru_on ?_
            have hk : k < q48.2.2.length := by omega
            have hkb2 := (ga_same e4857 hk).1
            refine Pk.tells ((Ent.own 8 rfl).some_of (by rw [gr_len]; omega)) fun hA48 => ?_
            refine Pk.tells ((Ent.own 6 rfl).some_of (by rw [gr_len]; omega)) fun hA57 => ?_
            refine pk_seq ?_
            refine pk_block ?_
            refine pk_drawk (.val 0 (.val 1 (.val 2 (.val 3 (.val 4 (.val 5 (.val 6 (.val 7 (.val 8 (.val 9 (.val 10 (.eff 11 (.eff 12 (.val 13 .nil)))))))))))))) 1014 [false, true, true, true, true, true, true, true, true, true] rfl (by kernel_rfl) (fun _ _ _ _ _ h => h) ?_
            refine ord_val rfl rfl rfl rfl (fun _ h => (Sats.keep [false, true, true, true, true, true, true, true, true, true] h :)) (val_move rfl rfl) ?_
            refine ord_val rfl rfl rfl rfl (fun _ h => (Sats.keep [false, true, true, true, true, true, true, true, true, true] h :)) (val_move rfl rfl) ?_
            refine ord_val rfl rfl rfl rfl (fun _ h => (Sats.keep [false, true, true, true, true, true, true, true, true, true] h :)) (val_move rfl rfl) ?_
            refine ord_val rfl rfl rfl rfl (fun _ h => (Sats.keep [false, true, true, true, true, true, true, true, true, true] h :)) (val_indexAddr rfl Try.underlying48 2 (by kernel_rfl) rfl rfl k rfl hk (Ent.pure hA48)) ?_
            refine ord_val rfl rfl rfl rfl (fun _ h => (Sats.keep [false, true, true, true, true, true, true, true, true, true] h :)) (val_fieldAddr rfl Try.underlying57 1 1 (by kernel_rfl) (by decide) rfl (Ent.pure (by first | rfl | assumption))) ?_
            refine ord_val rfl rfl rfl rfl (fun _ h => (Sats.keep [false, true, true, true, true, true, true, true, true, true] h :)) (val_load (v := .slice (q48.2.2.getD k dGR).A (q48.2.2.getD k dGR).l.length (q48.2.2.getD k dGR).c) rfl Try.underlying34 rfl rfl ((Ent.own 7 rfl).rd ((get_flat (k := k) GR.cells_len dGR hk (by decide)).trans rfl))) ?_
            refine ord_val rfl rfl rfl rfl (fun _ h => (Sats.keep [false, true, true, true, true, true, true, true, true, true] h :)) (val_move rfl rfl) ?_
            refine ord_val rfl rfl rfl rfl (fun _ h => (Sats.keep [false, true, true, true, true, true, true, true, true, true] h :)) (val_move rfl rfl) ?_
            refine ord_val rfl rfl rfl rfl (fun _ h => (Sats.keep [false, true, true, true, true, true, true, true, true, true] h :)) (val_indexAddr rfl Try.underlying48 2 (by kernel_rfl) rfl rfl k rfl hkb2 (Ent.pure hA57)) ?_
            refine ord_val rfl rfl rfl rfl (fun _ h => (Sats.keep [false, true, true, true, true, true, true, true, true, true] h :)) (val_fieldAddr rfl Try.underlying57 1 1 (by kernel_rfl) (by decide) rfl (Ent.pure (by first | rfl | assumption))) ?_
            refine ord_val rfl rfl rfl rfl (fun _ h => (Sats.keep [false, true, true, true, true, true, true, true, true, true] h :)) (val_load (v := .slice (q57.2.2.getD k dGR).A (q57.2.2.getD k dGR).l.length (q57.2.2.getD k dGR).c) rfl Try.underlying34 rfl rfl ((Ent.own 5 rfl).rd ((get_flat (k := k) GR.cells_len dGR hkb2 (by decide)).trans rfl))) ?_
            refine ord_eff (eff_buildSlice (len := 2) (sz := 1) (z := #[.slice none 0 0]) rfl Try.underlying41 (by kernel_rfl) rfl rfl rfl (by decide) (by decide) rfl rfl) rfl rfl rfl rfl (.inr fun _ _ => (fun _ h => (Sats.keep [false, false, true, true, true, true, true, true, true, true, true] h :))) (fun b263 _ => ?_)
            refine ord_eff (eff_append1 (sz := 1) (bytes := 24) (z := .slice none 0 0) 1 rfl Try.underlying41 (by kernel_rfl) rfl (by decide) (by decide) rfl rfl rfl (Ent.own 0 rfl) (by rw [interR_take_len _ _ _ (by rw [List.length_map, List.length_map]; exact hab48) (by rw [List.length_map]; omega), Nat.mul_one]) rfl rfl (by omega)) rfl rfl rfl rfl (.inr fun _ _ => (fun _ h => (Sats.keep [false, false, true, true, true, true, true, true, true, true, true] h :))) (fun q264 _ => ?_)
            refine ord_val rfl rfl rfl rfl (fun _ h => (Sats.keep [false, false, true, true, true, true, true, true, true, true, true] h :)) (val_assign rfl rfl) ?_
            refine ord_nil ?_
            refine in_on ?_
            refine thru_on ?_
            refine pk_region ?_
            refine pk_val rfl rfl rfl (val_move rfl rfl) ?_
            refine pk_val rfl rfl rfl (val_add rfl rfl rfl (by omega)) ?_
            refine pk_val rfl rfl rfl (val_assign rfl rfl) ?_
            refine pk_nil ?_
            refine thru_on ?_
            refine pk_next (x := ⟨k, q, d⟩) ((k + 1, q264.1, q264.2)) ?_ ?_ ?_ ?_
            · (try dsimp only) <;> exact hk
            · (try dsimp only); exact (by omega)
            · exact ⟨(Sub.cons rfl (by first | rfl | (congr 1; omega) | simp) (Sub.cons rfl (by first | rfl | (congr 1; omega) | simp) (Sub.cons rfl (by first | rfl | (congr 1; omega) | simp) (Sub.cons rfl (by first | rfl | (congr 1; omega) | simp) (Sub.cons rfl (by first | rfl | (congr 1; omega) | simp) (Sub.cons rfl (by (try dsimp only); rw [show 2 * (k + 1) = 2 * k + 2 by omega]) (Sub.cons rfl (by first | rfl | (congr 1; omega) | simp) (Sub.nil _)))))))), rfl⟩
            · exact (fun _ h => by
              have h1 := (Sats.keep [false, true, true, true, true, true, true, true, true, true, true] h)
              (try dsimp only)
              rw [show 2 * (k + 1) = 2 * k + 2 by omega, ← two_snoc (by rw [List.length_map]; exact hk) (by rw [List.length_map, List.length_map]; exact hab48) (q48.2.2.getD k dGR).row (q57.2.2.getD k dGR).row (row_getD hk) (row_getD hkb2)]
              exact h1)
          · skip
            have hke : k = q48.2.2.length := by omega
            subst hke
            obtain ⟨qa, e2⟩ : ∃ x, x = q := ⟨_, rfl⟩
            obtain ⟨da, e3⟩ : ∃ x, x = d := ⟨_, rfl⟩
            subst e2 e3
            refine pk_exit ?_
            refine thru ?_
            refine thru ?_
            refine pk_here ?_
            refine thru_on ?_
            refine pk_seq ?_
            refine pk_seq ?_
            refine pk_region ?_
            refine pk_val rfl rfl rfl (val_assign rfl rfl) ?_
            refine pk_nil ?_
            refine thru_on ?_
            refine pk_block ?_
            refine pk_loop (α := Nat × Option Addr × Nat) ((0, none, 0)) (fun y => [(9, .slice q48.1 q48.2.2.length q48.2.1), (11, .slice q57.1 q57.2.2.length q57.2.1), (13, .slice q66.1 q66.2.2.length q66.2.1), (15, .slice q75.1 q75.2.2.length q75.2.1), (25, .slice qa (2 * q48.2.2.length) da), (26, .slice y.2.1 (2 * y.1) y.2.2), (28, .int .i64 (y.1 : Nat))]) (fun y => (own y.2.1 (2 * y.1) y.2.2 44 1 ((interR ((q66.2.2.map GR.row).take y.1) ((q75.2.2.map GR.row).take y.1)).map rowV)) :: (own qa (2 * q48.2.2.length) da 34 1 ((interR ((q48.2.2.map GR.row).take q48.2.2.length) ((q57.2.2.map GR.row).take q48.2.2.length)).map rowV)) :: (own q75.1 q75.2.2.length q75.2.1 59 2 (q75.2.2.flatMap GR.cells)) :: (cat (q75.2.2.map (grCh 47 2 pC2))) :: (own q66.1 q66.2.2.length q66.2.1 59 2 (q66.2.2.flatMap GR.cells)) :: (cat (q66.2.2.map (grCh 47 2 pC2))) :: (own q57.1 q57.2.2.length q57.2.1 57 2 (q57.2.2.flatMap GR.cells)) :: (cat (q57.2.2.map (grCh 9 1 sC1))) :: (own q48.1 q48.2.2.length q48.2.1 57 2 (q48.2.2.flatMap GR.cells)) :: (cat (q48.2.2.map (grCh 9 1 sC1))) :: L) (fun y => y.1 ≤ q66.2.2.length) (fun y => q66.2.2.length - y.1) ?_ ?_ ?_ ?_
            · (try dsimp only) <;> exact Nat.zero_le _
            · exact ⟨(Sub.cons rfl (by first | rfl | (congr 1; omega) | simp) (Sub.cons rfl (by first | rfl | (congr 1; omega) | simp) (Sub.cons rfl (by first | rfl | (congr 1; omega) | simp) (Sub.cons rfl (by first | rfl | (congr 1; omega) | simp) (Sub.cons rfl (by first | rfl | (congr 1; omega) | simp) (Sub.cons rfl (by first | rfl | (congr 1; omega) | simp) (Sub.cons rfl (by first | rfl | (congr 1; omega) | simp) (Sub.nil _)))))))), rfl⟩
            · exact (fun _ h => (Sats.pick 10 [1, 0, 2, 3, 4, 5, 6, 7, 8, 9] rfl h :))
            rintro ⟨k, q, d⟩ hk0
            dsimp only at hk0 ⊢
            refine pk_seq ?_
            refine pk_seq ?_
            refine pk_region ?_
            refine pk_val rfl rfl rfl (val_move rfl rfl) ?_
            refine pk_val rfl rfl rfl (val_move rfl rfl) ?_
            refine pk_val rfl rfl rfl (val_len_slice rfl Try.underlying51 rfl) ?_
            refine pk_val rfl rfl rfl (val_lss rfl rfl rfl) ?_
            refine pk_nil ?_
            refine thru_on ?_
            refine pk_if rfl (fun h1 => ?_) (fun h1 => ?_)
            · skip
              refine pk_skip ?_
              refine thru_on ?_
              have hk : k < q66.2.2.length := by omega
              have hkb2 := (ga_same e6675 hk).1
              refine Pk.tells ((Ent.own 4 rfl).some_of (by rw [gr_len]; omega)) fun hA66 => ?_
              refine Pk.tells ((Ent.own 2 rfl).some_of (by rw [gr_len]; omega)) fun hA75 => ?_
              refine pk_seq ?_
              refine pk_block ?_
              refine pk_drawk (.val 0 (.val 1 (.val 2 (.val 3 (.val 4 (.val 5 (.val 6 (.val 7 (.val 8 (.val 9 (.val 10 (.eff 11 (.eff 12 (.val 13 .nil)))))))))))))) 1014 [false, true, true, true, true, true, true, true, true, true] rfl (by kernel_rfl) (fun _ _ _ _ _ h => h) ?_
              refine ord_val rfl rfl rfl rfl (fun _ h => (Sats.keep [false, true, true, true, true, true, true, true, true, true] h :)) (val_move rfl rfl) ?_
              refine ord_val rfl rfl rfl rfl (fun _ h => (Sats.keep [false, true, true, true, true, true, true, true, true, true] h :)) (val_move rfl rfl) ?_
              refine ord_val rfl rfl rfl rfl (fun _ h => (Sats.keep [false, true, true, true, true, true, true, true, true, true] h :)) (val_move rfl rfl) ?_
              refine ord_val rfl rfl rfl rfl (fun _ h => (Sats.keep [false, true, true, true, true, true, true, true, true, true] h :)) (val_indexAddr rfl Try.underlying51 2 (by kernel_rfl) rfl rfl k rfl hk (Ent.pure hA66)) ?_
              refine ord_val rfl rfl rfl rfl (fun _ h => (Sats.keep [false, true, true, true, true, true, true, true, true, true] h :)) (val_fieldAddr rfl Try.underlying59 1 1 (by kernel_rfl) (by decide) rfl (Ent.pure (by first | rfl | assumption))) ?_
              refine ord_val rfl rfl rfl rfl (fun _ h => (Sats.keep [false, true, true, true, true, true, true, true, true, true] h :)) (val_load (v := .slice (q66.2.2.getD k dGR).A (q66.2.2.getD k dGR).l.length (q66.2.2.getD k dGR).c) rfl Try.underlying44 rfl rfl ((Ent.own 3 rfl).rd ((get_flat (k := k) GR.cells_len dGR hk (by decide)).trans rfl))) ?_
              refine ord_val rfl rfl rfl rfl (fun _ h => (Sats.keep [false, true, true, true, true, true, true, true, true, true] h :)) (val_move rfl rfl) ?_
              refine ord_val rfl rfl rfl rfl (fun _ h => (Sats.keep [false, true, true, true, true, true, true, true, true, true] h :)) (val_move rfl rfl) ?_
              refine ord_val rfl rfl rfl rfl (fun _ h => (Sats.keep [false, true, true, true, true, true, true, true, true, true] h :)) (val_indexAddr rfl Try.underlying51 2 (by kernel_rfl) rfl rfl k rfl hkb2 (Ent.pure hA75)) ?_
              refine ord_val rfl rfl rfl rfl (fun _ h => (Sats.keep [false, true, true, true, true, true, true, true, true, true] h :)) (val_fieldAddr rfl Try.underlying59 1 1 (by kernel_rfl) (by decide) rfl (Ent.pure (by first | rfl | assumption))) ?_
              refine ord_val rfl rfl rfl rfl (fun _ h => (Sats.keep [false, true, true, true, true, true, true, true, true, true] h :)) (val_load (v := .slice (q75.2.2.getD k dGR).A (q75.2.2.getD k dGR).l.length (q75.2.2.getD k dGR).c) rfl Try.underlying44 rfl rfl ((Ent.own 1 rfl).rd ((get_flat (k := k) GR.cells_len dGR hkb2 (by decide)).trans rfl))) ?_
              refine ord_eff (eff_buildSlice (len := 2) (sz := 1) (z := #[.slice none 0 0]) rfl Try.underlying60 (by kernel_rfl) rfl rfl rfl (by decide) (by decide) rfl rfl) rfl rfl rfl rfl (.inr fun _ _ => (fun _ h => (Sats.keep [false, false, true, true, true, true, true, true, true, true, true] h :))) (fun b282 _ => ?_)
              refine ord_eff (eff_append1 (sz := 1) (bytes := 24) (z := .slice none 0 0) 1 rfl Try.underlying60 (by kernel_rfl) rfl (by decide) (by decide) rfl rfl rfl (Ent.own 0 rfl) (by rw [interR_take_len _ _ _ (by rw [List.length_map, List.length_map]; exact hab66) (by rw [List.length_map]; omega), Nat.mul_one]) rfl rfl (by omega)) rfl rfl rfl rfl (.inr fun _ _ => (fun _ h => (Sats.keep [false, false, true, true, true, true, true, true, true, true, true] h :))) (fun q283 _ => ?_)
              refine ord_val rfl rfl rfl rfl (fun _ h => (Sats.keep [false, false, true, true, true, true, true, true, true, true, true] h :)) (val_assign rfl rfl) ?_
              refine ord_nil ?_
              refine in_on ?_
              refine thru_on ?_
              refine pk_region ?_
              refine pk_val rfl rfl rfl (val_move rfl rfl) ?_
              refine pk_val rfl rfl rfl (val_add rfl rfl rfl (by omega)) ?_
              refine pk_val rfl rfl rfl (val_assign rfl rfl) ?_
              refine pk_nil ?_
              refine thru_on ?_
              refine pk_next (x := ⟨k, q, d⟩) ((k + 1, q283.1, q283.2)) ?_ ?_ ?_ ?_
              · (try dsimp only) <;> exact hk
              · (try dsimp only); exact (by omega)
              · exact ⟨(Sub.cons rfl (by first | rfl | (congr 1; omega) | simp) (Sub.cons rfl (by first | rfl | (congr 1; omega) | simp) (Sub.cons rfl (by first | rfl | (congr 1; omega) | simp) (Sub.cons rfl (by first | rfl | (congr 1; omega) | simp) (Sub.cons rfl (by first | rfl | (congr 1; omega) | simp) (Sub.cons rfl (by (try dsimp only); rw [show 2 * (k + 1) = 2 * k + 2 by omega]) (Sub.cons rfl (by first | rfl | (congr 1; omega) | simp) (Sub.nil _)))))))), rfl⟩
              · exact (fun _ h => by
                have h1 := (Sats.keep [false, true, true, true, true, true, true, true, true, true, true] h)
                (try dsimp only)
                rw [show 2 * (k + 1) = 2 * k + 2 by omega, ← two_snoc (by rw [List.length_map]; exact hk) (by rw [List.length_map, List.length_map]; exact hab66) (q66.2.2.getD k dGR).row (q75.2.2.getD k dGR).row (row_getD hk) (row_getD hkb2)]
                exact h1)
            · skip
              have hke : k = q66.2.2.length := by omega
              subst hke
              have hfa := inter_full (us := q48.2.2.map GR.row) (bs := q57.2.2.map GR.row) (n := q48.2.2.length) (by rw [List.length_map]) (by rw [List.length_map]; omega)
              have hfb := inter_full (us := q66.2.2.map GR.row) (bs := q75.2.2.map GR.row) (n := q66.2.2.length) (by rw [List.length_map]) (by rw [List.length_map]; omega)
              have hl1 : (interR (q48.2.2.map GR.row) (q57.2.2.map GR.row)).length = 2 * q48.2.2.length := by rw [interR_len _ _ (by rw [List.length_map, List.length_map]; exact hab48), List.length_map]
              have hl2 : (interR (q66.2.2.map GR.row) (q75.2.2.map GR.row)).length = 2 * q66.2.2.length := by rw [interR_len _ _ (by rw [List.length_map, List.length_map]; exact hab66), List.length_map]
              refine pk_exit ?_
              refine thru ?_
              refine thru ?_
              refine pk_here ?_
              refine thru_on ?_
              refine pk_seq ?_
              refine pk_region ?_
              refine pk_val rfl rfl rfl (val_move rfl rfl) ?_
              refine pk_val rfl rfl rfl (val_move rfl rfl) ?_
              refine pk_eff (eff_call1 rfl ⟨_, Try.func19, by kernel_rfl, rfl⟩ rfl (fun E w s => law05_marked_c (ls := interR (q48.2.2.map GR.row) (q57.2.2.map GR.row)) (xs := interR (q66.2.2.map GR.row) (q75.2.2.map GR.row)) (s.to fun _ h => marked_in hab48 hab66 ((Sats.pick 10 [9, 7, 5, 3, 0, 1] rfl h :))) (Ent.imp (Ent.own 1 rfl) (fun _ r => by rw [hfa] at r; exact r)) (Ent.imp (Ent.own 0 rfl) (fun _ r => by rw [hfb] at r; exact r)) (by omega) (by omega) (rows_small (fun g hg => Nat.le_trans (hkl48 g hg) (by omega)) (fun g hg => Nat.le_trans (hkl57 g hg) (by omega))) (rows_small (fun g hg => Nat.le_trans (hkl66 g hg) (by omega)) (fun g hg => Nat.le_trans (hkl75 g hg) (by omega))) hl1 hl2)) rfl rfl rfl (fun _ _ => ?_)
              refine pk_val rfl rfl rfl (val_assign rfl rfl) ?_
              refine pk_nil ?_
              refine thru_on ?_
              refine pk_ret ?_
              refine ret1 rfl rfl fun w s => ⟨rfl, s.to (fun _ h => Sats.keep [false, false] h)⟩
end Go.Proofs.Ytdpckendkklfdaa
