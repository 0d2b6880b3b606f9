/- The walks of package fix, fourth part: slices.Clone, greatest. -/
import Derived.Test.YtdpckendkklfdaaGreatFixC
import Derived.Test.YtdpckendkklfdaaGreatEngH
set_option linter.unusedVariables false
set_option linter.unusedSimpArgs false
set_option maxRecDepth 100000
namespace Go.Proofs.YtdpckendkklfdaaGreat
open Go.RowKit Go.Proofs.Eng
/-- the greatest ID of those that have a key among theirs -/
def grt : List Av → ByteArray → Int
  | [], _ => 0
  | v :: r, s => if memB v.keys s then max v.id (grt r s) else grt r s
theorem grt_snoc (l : List Av) (v : Av) (s : ByteArray) : grt (l ++ [v]) s = if memB v.keys s then max (grt l s) v.id else grt l s := by
  induction l with
  | nil => simp only [List.nil_append, grt, Int.max_comm]
  | cons u r ih =>
    simp only [List.cons_append, grt]
    rw [ih]
    split <;> split <;> simp [Int.max_assoc]
theorem grt_ge {l : List Av} {u : Av} {s : ByteArray} (h : u ∈ l) (hs : memB u.keys s = true) : u.id ≤ grt l s := by
  induction l with
  | nil => cases h
  | cons v r ih =>
    simp only [grt]
    rcases List.mem_cons.1 h with rfl | h
    · simp only [hs, if_true]; exact Int.le_max_left _ _
    · have := ih h
      split
      · exact Int.le_trans this (Int.le_max_right _ _)
      · exact this
/-- what greatest tells -/
def grtL (l : List Av) : List Int := l.map (fun v => grt l v.key)
structure FormedFacts (l : List Av) : Prop where
  may : ∀ v ∈ l, mayB v = true
  uniq : ∀ (i j : Nat) (u v : Av), l[i]? = some u → l[j]? = some v → u.key = v.key → i = j
  keys : ∀ u ∈ l, ∀ v ∈ l, u.id = v.id → u.keys = v.keys
theorem formedGo_step : ∀ (l pre : List Av), formedGo pre l = true → ∀ i v, l[i]? = some v → mayB v = true ∧ memB ((pre ++ l.take i).map (·.key)) v.key = false ∧ (∀ u, (pre ++ l.take i).find? (fun u => decide (u.id = v.id)) = some u → u.keys = v.keys)
  | [], _, _, i, v, e => by simp at e
  | x :: r, pre, h, i, v, e => by
    simp only [formedGo, Bool.and_eq_true, Bool.not_eq_true'] at h
    obtain ⟨⟨⟨h1, h2⟩, h3⟩, h4⟩ := h
    cases i with
    | zero =>
      simp only [List.getElem?_cons_zero, Option.some.injEq] at e
      subst e
      refine ⟨h1, by simpa using h2, fun u hu => ?_⟩
      simp only [List.take_zero, List.append_nil] at hu
      rw [hu] at h3
      simpa using h3
    | succ i =>
      have := formedGo_step r (pre ++ [x]) h4 i v (by simpa using e)
      simpa [List.append_assoc] using this
theorem formedGo_facts {l : List Av} (h : formedGo [] l = true) : FormedFacts l := by
  have st := formedGo_step l [] h
  have ne : ∀ (i j : Nat) (u v : Av), i < j → l[i]? = some u → l[j]? = some v → u.key ≠ v.key := fun i j u v hij hu hv e => by
    have := (st j v hv).2.1
    rw [List.nil_append] at this
    have hm : memB ((l.take j).map (·.key)) v.key = true := memB_iff.2 (List.mem_map.2 ⟨u, List.mem_of_getElem? (i := i) (by rw [List.getElem?_take]; simp [hij, hu]), e⟩)
    rw [hm] at this; cases this
  refine ⟨fun v hv => ?_, fun i j u v hu hv e => ?_, fun u hu v hv e => ?_⟩
  · obtain ⟨i, hi⟩ := List.mem_iff_getElem?.1 hv
    exact (st i v hi).1
  · rcases Nat.lt_trichotomy i j with h | h | h
    · exact absurd e (ne i j u v h hu hv)
    · exact h
    · exact absurd e.symm (ne j i v u h hv hu)
  · -- all agree with the first that has the ID
    have first : ∀ (z : Int) (f : Av), l.find? (fun u => decide (u.id = z)) = some f → ∀ v ∈ l, v.id = z → f.keys = v.keys := fun z f hf v hv hz => by
      obtain ⟨j, hj⟩ := List.mem_iff_getElem?.1 hv
      have h3 := (st j v hj).2.2
      rw [List.nil_append, hz] at h3
      cases hc : (l.take j).find? (fun u => decide (u.id = z)) with
      | some u =>
        have : l.find? (fun u => decide (u.id = z)) = some u := by
          rw [← List.take_append_drop j l, List.find?_append, hc]; rfl
        rw [hf] at this; cases this
        exact h3 _ hc
      | none =>
        have : l.find? (fun u => decide (u.id = z)) = some v := by
          have hjl : j < l.length := (List.getElem?_eq_some_iff.1 hj).1
          rw [← List.take_append_drop j l, List.find?_append, hc, List.drop_eq_getElem_cons hjl]
          have : l[j] = v := (List.getElem?_eq_some_iff.1 hj).2
          simp [this, hz]
        rw [hf] at this; cases this
        rfl
    obtain ⟨f, hf⟩ : ∃ f, l.find? (fun w => decide (w.id = u.id)) = some f := by
      cases hc : l.find? (fun w => decide (w.id = u.id)) with
      | some f => exact ⟨f, rfl⟩
      | none => exact absurd (List.find?_eq_none.1 hc u hu) (by simp)
    exact (first u.id f hf u hu rfl).symm.trans (first u.id f hf v hv e.symm)
/-- where each key lies -/
structure AtInv (l : List Av) (k : Nat) (l1 : List (ByteArray × Int)) : Prop where
  le : k ≤ l.length
  ix : ∀ (i : Nat) v, i < k → l[i]? = some v → ahas l1 v.key = true ∧ aget l1 v.key 0 = (i : Int)
  no : ∀ s, ahas l1 s = true → ∃ (i : Nat) (v : Av), i < k ∧ l[i]? = some v ∧ v.key = s
theorem AtInv.start (l : List Av) : AtInv l 0 [] := ⟨Nat.zero_le _, fun i v h => by omega, fun s h => by simp [ahas] at h⟩
theorem AtInv.next {l : List Av} {k : Nat} {l1 : List (ByteArray × Int)} {v : Av} (h : AtInv l k l1) (hF : FormedFacts l) (hv : l[k]? = some v) : AtInv l (k + 1) (aput l1 v.key (k : Int)) := by
  have hk : k < l.length := (List.getElem?_eq_some_iff.1 hv).1
  refine ⟨by omega, fun i u hi hu => ?_, fun s hs => ?_⟩
  · by_cases e : i = k
    · subst e
      rw [hv] at hu; cases hu
      exact ⟨ahas_aput_same _ _ _, aget_aput_same _ _ _ _⟩
    · have hne : u.key ≠ v.key := fun h => e (hF.uniq i k u v hu hv h)
      rw [ahas_aput_other _ _ hne, aget_aput_other _ _ _ hne]
      exact h.ix i u (by omega) hu
  · by_cases e : s = v.key
    · exact ⟨k, v, by omega, hv, e.symm⟩
    · rw [ahas_aput_other _ _ e] at hs
      obtain ⟨i, u, h1, h2, h3⟩ := h.no s hs
      exact ⟨i, u, by omega, h2, h3⟩
/-- how often each ID has come -/
def SeenInv (l : List Av) (k : Nat) (l2 : List (Int × Int)) : Prop := ∀ z, aget l2 z 0 = ((((l.take k).filter fun u => decide (u.id = z)).length : Nat) : Int)
theorem SeenInv.next {l : List Av} {k : Nat} {l2 : List (Int × Int)} {v : Av} (h : SeenInv l k l2) (hv : l[k]? = some v) : SeenInv l (k + 1) (aput l2 v.id (aget l2 v.id 0 + 1)) := fun z => by
  have hk : k < l.length := (List.getElem?_eq_some_iff.1 hv).1
  have hg : l[k] = v := (List.getElem?_eq_some_iff.1 hv).2
  rw [List.take_succ_eq_append_getElem hk, List.filter_append, List.length_append, hg]
  by_cases e : z = v.id
  · subst e
    rw [aget_aput_same, h]
    simp
  · rw [aget_aput_other _ _ _ e, h]
    have : ¬ v.id = z := fun h => e h.symm
    simp [this]
theorem SeenInv.bound {l : List Av} {k : Nat} {l2 : List (Int × Int)} (h : SeenInv l k l2) (z : Int) : 0 ≤ aget l2 z 0 ∧ aget l2 z 0 ≤ (l.length : Int) := by
  rw [h z]
  have h1 := List.length_filter_le (fun u : Av => decide (u.id = z)) (l.take k)
  have h2 : (l.take k).length ≤ l.length := by simp; omega
  constructor <;> omega
/-- the row behind k versions and j keys of the next -/
def rowB (l : List Av) (k j : Nat) (v : Av) : List Int := l.map fun u => if memB (v.keys.take j) u.key then max (grt (l.take k) u.key) v.id else grt (l.take k) u.key
theorem rowB_start (l : List Av) (k : Nat) (v : Av) : rowB l k 0 v = l.map fun u => grt (l.take k) u.key := by simp [rowB, memB]
theorem rowB_end {l : List Av} {k : Nat} {v : Av} (hv : l[k]? = some v) {j : Nat} (hj : v.keys.length ≤ j) : rowB l k j v = l.map fun u => grt (l.take (k + 1)) u.key := by
  have hk : k < l.length := (List.getElem?_eq_some_iff.1 hv).1
  have hg : l[k] = v := (List.getElem?_eq_some_iff.1 hv).2
  simp only [rowB, List.take_of_length_le hj, List.take_succ_eq_append_getElem hk, hg, grt_snoc]
theorem row_again {l : List Av} {k : Nat} {v : Av} {l2 : List (Int × Int)} (hF : FormedFacts l) (hS : SeenInv l k l2) (hv : l[k]? = some v) (h : 1 < aget l2 v.id 0 + 1) : (l.map fun u => grt (l.take k) u.key) = l.map fun u => grt (l.take (k + 1)) u.key := by
  have hk : k < l.length := (List.getElem?_eq_some_iff.1 hv).1
  have hg : l[k] = v := (List.getElem?_eq_some_iff.1 hv).2
  rw [hS] at h
  obtain ⟨u, hu⟩ : ∃ u, u ∈ (l.take k).filter fun u => decide (u.id = v.id) := List.exists_mem_of_length_pos (by omega)
  simp only [List.mem_filter, decide_eq_true_eq] at hu
  have hks : u.keys = v.keys := hF.keys u (List.mem_of_mem_take hu.1) v (List.mem_of_getElem? hv) hu.2
  refine List.map_congr_left fun w _ => ?_
  rw [List.take_succ_eq_append_getElem hk, hg, grt_snoc]
  split
  · rename_i hm
    have := grt_ge hu.1 (s := w.key) (by rw [hks]; exact hm)
    rw [hu.2] at this
    exact (Int.max_eq_left this).symm
  · rfl
theorem take_succD (l : List ByteArray) {j : Nat} (h : j < l.length) : l.take (j + 1) = l.take j ++ [l.getD j emp] := by
  rw [List.take_succ_eq_append_getElem h]; simp [h]
theorem rowB_hit {l : List Av} {k j i : Nat} {v u : Av} (hF : FormedFacts l) (hj : j < v.keys.length) (hu : l[i]? = some u) (hk : u.key = v.keys.getD j emp) :
    (rowB l k j v).set i (if v.id > (rowB l k j v).getD i 0 then v.id else (rowB l k j v).getD i 0) = rowB l k (j + 1) v := by
  have hi : i < l.length := (List.getElem?_eq_some_iff.1 hu).1
  have hmax : ∀ a b : Int, (if b > a then b else a) = max a b := fun a b => by
    rw [Int.max_def]; split <;> split <;> omega
  rw [hmax]
  apply List.ext_getElem?
  intro m
  rw [List.getElem?_set]
  by_cases e : i = m
  · subst e
    have hgd : (rowB l k j v).getD i 0 = if memB (v.keys.take j) u.key then max (grt (l.take k) u.key) v.id else grt (l.take k) u.key := by
      simp only [rowB, List.getD_eq_getElem?_getD, List.getElem?_map, hu, Option.map_some, Option.getD_some]
    have hln : i < (rowB l k j v).length := by simpa [rowB] using hi
    simp only [if_true, hln, hgd]
    simp only [rowB, List.getElem?_map, hu, Option.map_some]
    rw [take_succD _ hj, memB_snoc, ← hk]
    simp only [decide_true, Bool.or_true, if_true]
    split
    · rw [Int.max_assoc, Int.max_self]
    · rfl
  · simp only [e, if_false]
    simp only [rowB, List.getElem?_map]
    cases hm : l[m]? with
    | none => rfl
    | some w =>
      simp only [Option.map_some]
      have : ¬ v.keys.getD j emp = w.key := fun h => e (hF.uniq i m u w hu hm (hk.trans h))
      rw [take_succD _ hj, memB_snoc, decide_eq_false this, Bool.or_false]
theorem rowB_miss {l : List Av} {k j : Nat} {v : Av} (hj : j < v.keys.length) (h : ∀ u ∈ l, u.key ≠ v.keys.getD j emp) : rowB l k j v = rowB l k (j + 1) v := by
  simp only [rowB]
  refine List.map_congr_left fun w hw => ?_
  have : ¬ v.keys.getD j emp = w.key := fun e => h w hw e.symm
  rw [take_succD _ hj, memB_snoc, decide_eq_false this, Bool.or_false]
theorem row0 (l : List Av) : (l.map fun u => grt (l.take 0) u.key).map (Value.int .u64) = List.replicate l.length (.int .u64 0) :=
  List.eq_replicate_iff.2 ⟨by simp, fun b hb => by simp [grt] at hb; exact hb.2.symm⟩
theorem avs_get {vs : List Ver} {k : Nat} (h : k < vs.length) : (avs vs)[k]? = some (vs.getD k dV).a := by simp [avs, h]
theorem rowB_length (l : List Av) (k j : Nat) (v : Av) : (rowB l k j v).length = l.length := by simp [rowB]
theorem fix_greatest_c {E w : World} {L : List Ch} {A : Option Addr} {c : Nat} {vs : List Ver} (s : Sat E w L) (hV : VerIn L A vs) (hG : formedGo [] (avs vs) = true) (hlen : vs.length ≤ 1024) :
    Calls Tryz.prog 99 #[.slice A vs.length c] w (GivesX E (fun b : Nat => .slice (some ⟨b, 0, none⟩) vs.length vs.length) (fun b => own (some ⟨b, 0, none⟩) vs.length vs.length 23 1 ((grtL (avs vs)).map (.int .u64)) :: L) (fun _ => True)) := by
  have hF := formedGo_facts hG
  refine enter (vs := [_]) Tryz.func99 rfl Tryz.ntmps99 rfl s ?_
  refine pk_seq ?_
  refine pk_region ?_
  refine pk_val rfl rfl rfl (val_assign rfl rfl) ?_
  refine pk_nil ?_
  refine thru_on ?_
  refine pk_seq ?_
  refine pk_region ?_
  refine pk_eff (eff_mapNew (encS) (encI) rfl) rfl rfl rfl (fun bm3 _ => ?_)
  refine pk_val rfl rfl rfl (val_assign rfl rfl) ?_
  refine pk_nil ?_
  refine thru_on ?_
  refine pk_seq ?_
  refine pk_seq ?_
  refine pk_region ?_
  refine pk_val rfl rfl rfl (val_move rfl rfl) ?_
  refine pk_val rfl rfl rfl (val_len_slice rfl Tryz.underlying84 rfl) ?_
  refine pk_val rfl rfl rfl (val_move rfl rfl) ?_
  refine pk_nil ?_
  refine thru_on ?_
  refine pk_block ?_
  refine pk_loop (α := Nat × List (ByteArray × Int)) ((0, [])) (fun y => [(3, .map (some bm3)), (15, .slice A vs.length c), (0, .slice A vs.length c), (16, .int .i64 (vs.length : Nat)), (17, .int .i64 (y.1 : Nat))]) (fun y => (mapc (some bm3) encS encI y.2) :: L) (fun y => AtInv (avs vs) y.1 y.2) (fun y => vs.length - y.1) ?_ ?_ ?_ ?_
  · (try dsimp only) <;> exact AtInv.start _
  · exact ⟨(Sub.cons rfl (by first | rfl | (congr 1; omega) | simp) (Sub.cons rfl (by first | rfl | (congr 1; omega) | simp) (Sub.cons rfl (by first | rfl | (congr 1; omega) | simp) (Sub.cons rfl (by first | rfl | (congr 1; omega) | simp) (Sub.cons rfl (by first | rfl | (congr 1; omega) | simp) (Sub.nil _)))))), rfl⟩
  · exact (fun _ h => h)
  rintro ⟨k, l1⟩ hI
  dsimp only at hI ⊢
  refine pk_seq ?_
  refine pk_region ?_
  refine pk_val rfl rfl rfl (val_lss rfl rfl rfl) ?_
  refine pk_nil ?_
  refine thru_on ?_
  refine pk_seq ?_
  refine pk_if rfl (fun h2 => ?_) (fun h2 => ?_)
  · skip
    refine pk_skip ?_
    refine thru_on ?_
    have hk : k < vs.length := by omega
    refine Pk.tells (hV.cons.rows.some_of (by rw [flat_length Ver.cells_len]; omega)) fun hA => ?_
    refine pk_seq ?_
    refine pk_block ?_
    refine pk_seq ?_
    refine pk_region ?_
    refine pk_val rfl rfl rfl (val_move rfl rfl) ?_
    refine pk_val rfl rfl rfl (val_indexAddr rfl Tryz.underlying84 4 (by kernel_rfl) rfl rfl k rfl hk (Ent.pure hA)) ?_
    refine pk_val rfl rfl rfl (val_loads (vs := (vs.getD k dV).cells) rfl Tryz.underlying26 rfl (by kernel_rfl) rfl (Ent.pure hA) (hV.cons.rows.rds (flat_rds Ver.cells_len dV hk))) ?_
    refine pk_eff (eff_alloc (z := [.string ⟨#[]⟩, .int .u64 0, .string ⟨#[]⟩, .slice none 0 0]) rfl (by kernel_rfl)) rfl rfl rfl (fun b5 _ => ?_)
    refine pk_val rfl rfl rfl (val_assign rfl rfl) ?_
    refine pk_eff0 (eff_storeW 0 rfl rfl rfl rfl rfl (by kernel_rfl) rfl rfl rfl) rfl rfl (fun _ _ => ?_)
    refine pk_nil ?_
    refine thru_on ?_
    refine pk_region ?_
    refine pk_val rfl rfl rfl (val_move rfl rfl) ?_
    refine pk_val rfl rfl rfl (val_fieldAddr rfl Tryz.underlying26 0 1 (by kernel_rfl) (by decide) rfl (Ent.pure rfl)) ?_
    refine pk_val rfl rfl rfl (val_load rfl Tryz.underlying9 rfl rfl ((Ent.own 0 rfl).rd rfl)) ?_
    refine pk_val rfl rfl rfl (val_move rfl rfl) ?_
    refine pk_eff0 (eff_mapUpdate 1 ((k : Int)) rfl Tryz.underlying249 (keyOk_string Tryz.underlying9) rfl rfl rfl rfl) rfl rfl (fun _ _ => ?_)
    refine pk_nil ?_
    refine in_on ?_
    refine thru_on ?_
    refine pk_region ?_
    refine pk_val rfl rfl rfl (val_add rfl rfl rfl (by omega)) ?_
    refine pk_val rfl rfl rfl (val_move rfl rfl) ?_
    refine pk_nil ?_
    refine thru_on ?_
    refine pk_next (x := ⟨k, l1⟩) ((k + 1, aput l1 (vs.getD k dV).a.key (k : Int))) ?_ ?_ ?_ ?_
    · (try dsimp only) <;> exact hI.next hF (avs_get hk)
    · (try dsimp only); exact (by omega)
    · exact ⟨(Sub.cons rfl (by first | rfl | (congr 1; omega) | simp) (Sub.cons rfl (by first | rfl | (congr 1; omega) | simp) (Sub.cons rfl (by first | rfl | (congr 1; omega) | simp) (Sub.cons rfl (by first | rfl | (congr 1; omega) | simp) (Sub.cons rfl (by first | rfl | (congr 1; omega) | simp) (Sub.nil _)))))), rfl⟩
    · exact (fun _ h => Sats.keep [false, true] h)
  · skip
    have hkk : k = vs.length := by have := hI.le; simp [avs] at this; omega
    subst hkk
    refine pk_exit ?_
    refine thru ?_
    refine thru ?_
    refine pk_here ?_
    refine thru_on ?_
    refine pk_seq ?_
    refine pk_region ?_
    refine pk_val rfl rfl rfl (val_move rfl rfl) ?_
    refine pk_val rfl rfl rfl (val_len_slice rfl Tryz.underlying84 rfl) ?_
    refine pk_eff (eff_make1 (bytes := 8) (z := .int .u64 0) (zc := .int .u64 0) rfl Tryz.underlying54 (by kernel_rfl) rfl rfl rfl rfl rfl (Nat.le_refl _) (by omega) (by omega)) rfl rfl rfl (fun b29 _ => ?_)
    refine pk_val rfl rfl rfl (val_assign rfl rfl) ?_
    refine pk_nil ?_
    refine thru_on ?_
    refine pk_seq ?_
    refine pk_region ?_
    refine pk_eff (eff_mapNew (encU) (encI) rfl) rfl rfl rfl (fun bm7 _ => ?_)
    refine pk_val rfl rfl rfl (val_assign rfl rfl) ?_
    refine pk_nil ?_
    refine thru_on ?_
    refine pk_seq ?_
    refine pk_seq ?_
    refine pk_region ?_
    refine pk_val rfl rfl rfl (val_move rfl rfl) ?_
    refine pk_val rfl rfl rfl (val_len_slice rfl Tryz.underlying84 rfl) ?_
    refine pk_val rfl rfl rfl (val_move rfl rfl) ?_
    refine pk_nil ?_
    refine thru_on ?_
    refine pk_block ?_
    refine pk_loop (α := Nat × List (Int × Int)) ((0, [])) (fun y => [(3, .map (some bm3)), (7, .map (some bm7)), (6, .slice (some ⟨b29, 0, none⟩) vs.length vs.length), (31, .slice A vs.length c), (32, .int .i64 (vs.length : Nat)), (33, .int .i64 (y.1 : Nat))]) (fun y => (mapc (some bm7) encU encI y.2) :: (own (some ⟨b29, 0, none⟩) vs.length vs.length 23 1 (((avs vs).map fun u => grt ((avs vs).take y.1) u.key).map (Value.int .u64))) :: (mapc (some bm3) encS encI l1) :: L) (fun y => y.1 ≤ vs.length ∧ SeenInv (avs vs) y.1 y.2) (fun y => vs.length - y.1) ?_ ?_ ?_ ?_
    · (try dsimp only) <;> exact ⟨Nat.zero_le _, fun z => by simp [aget]⟩
    · exact ⟨(Sub.cons rfl (by first | rfl | (congr 1; omega) | simp) (Sub.cons rfl (by first | rfl | (congr 1; omega) | simp) (Sub.cons rfl (by first | rfl | (congr 1; omega) | simp) (Sub.cons rfl (by first | rfl | (congr 1; omega) | simp) (Sub.cons rfl (by first | rfl | (congr 1; omega) | simp) (Sub.cons rfl (by first | rfl | (congr 1; omega) | simp) (Sub.nil _))))))), rfl⟩
    · exact (fun _ h => by (try dsimp only); rw [row0]; simpa only [avs, List.length_map] using h)
    rintro ⟨k, l2⟩ ⟨hk0, hS⟩
    dsimp only at hk0 hS ⊢
    refine pk_seq ?_
    refine pk_region ?_
    refine pk_val rfl rfl rfl (val_lss rfl rfl rfl) ?_
    refine pk_nil ?_
    refine thru_on ?_
    refine pk_seq ?_
    refine pk_if rfl (fun h3 => ?_) (fun h3 => ?_)
    · skip
      refine pk_skip ?_
      refine thru_on ?_
      have hk : k < vs.length := by omega
      have hmem := getD_mem dV hk
      refine Pk.tells (hV.cons.cons.cons.rows.some_of (by rw [flat_length Ver.cells_len]; omega)) fun hA => ?_
      have hbd := hS.bound (vs.getD k dV).a.id
      have hal : (avs vs).length = vs.length := by simp [avs]
      have hkl := hV.klen _ hmem
      refine pk_seq ?_
      refine pk_block ?_
      refine pk_seq ?_
      refine pk_region ?_
      refine pk_val rfl rfl rfl (val_indexAddr rfl Tryz.underlying84 4 (by kernel_rfl) rfl rfl k rfl hk (Ent.pure hA)) ?_
      refine pk_val rfl rfl rfl (val_loads (vs := (vs.getD k dV).cells) rfl Tryz.underlying26 rfl (by kernel_rfl) rfl (Ent.pure hA) (hV.cons.cons.cons.rows.rds (flat_rds Ver.cells_len dV hk))) ?_
      refine pk_eff (eff_alloc (z := [.string ⟨#[]⟩, .int .u64 0, .string ⟨#[]⟩, .slice none 0 0]) rfl (by kernel_rfl)) rfl rfl rfl (fun b9 _ => ?_)
      refine pk_eff0 (eff_storeW 0 rfl rfl rfl rfl rfl (by kernel_rfl) rfl rfl rfl) rfl rfl (fun _ _ => ?_)
      refine pk_nil ?_
      refine thru_on ?_
      refine pk_seq ?_
      refine pk_seq ?_
      refine pk_region ?_
      refine pk_val rfl rfl rfl (val_move rfl rfl) ?_
      refine pk_val rfl rfl rfl (val_fieldAddr rfl Tryz.underlying26 1 1 (by kernel_rfl) (by decide) rfl (Ent.pure rfl)) ?_
      refine pk_val rfl rfl rfl (val_load rfl Tryz.underlying23 rfl rfl ((Ent.own 0 rfl).rd rfl)) ?_
      refine pk_val rfl rfl rfl (val_lookup (0) rfl Tryz.underlying264 (keyOk_int Tryz.underlying23) (by kernel_rfl) rfl rfl rfl (Ent.map 1 rfl)) ?_
      refine pk_val rfl rfl rfl (val_add rfl rfl rfl (by omega)) ?_
      refine pk_eff0 (eff_mapUpdate 1 (aget l2 (vs.getD k dV).a.id 0 + 1) rfl Tryz.underlying264 (keyOk_int Tryz.underlying23) rfl rfl rfl rfl) rfl rfl (fun _ _ => ?_)
      refine pk_nil ?_
      refine thru_on ?_
      refine pk_seq ?_
      refine pk_region ?_
      refine pk_val rfl rfl rfl (val_move rfl rfl) ?_
      refine pk_val rfl rfl rfl (val_fieldAddr rfl Tryz.underlying26 1 1 (by kernel_rfl) (by decide) rfl (Ent.pure rfl)) ?_
      refine pk_val rfl rfl rfl (val_load rfl Tryz.underlying23 rfl rfl ((Ent.own 0 rfl).rd rfl)) ?_
      refine pk_val rfl rfl rfl (val_lookup (0) rfl Tryz.underlying264 (keyOk_int Tryz.underlying23) (by kernel_rfl) rfl rfl rfl (Ent.map 1 rfl)) ?_
      refine pk_val rfl rfl rfl (val_gtr rfl rfl rfl) ?_
      refine pk_nil ?_
      refine thru_on ?_
      refine pk_if rfl (fun h4 => ?_) (fun h4 => ?_)
      · skip
        refine pk_exit ?_
        refine thru ?_
        refine pk_here ?_
        refine thru_on ?_
        refine pk_region ?_
        refine pk_val rfl rfl rfl (val_add rfl rfl rfl (by omega)) ?_
        refine pk_val rfl rfl rfl (val_move rfl rfl) ?_
        refine pk_nil ?_
        refine thru_on ?_
        refine pk_next (x := ⟨k, l2⟩) ((k + 1, aput l2 (vs.getD k dV).a.id (aget l2 (vs.getD k dV).a.id 0 + 1))) ?_ ?_ ?_ ?_
        · (try dsimp only) <;> exact ⟨by omega, hS.next (avs_get hk)⟩
        · (try dsimp only); exact (by omega)
        · exact ⟨(Sub.cons rfl (by first | rfl | (congr 1; omega) | simp) (Sub.cons rfl (by first | rfl | (congr 1; omega) | simp) (Sub.cons rfl (by first | rfl | (congr 1; omega) | simp) (Sub.cons rfl (by first | rfl | (congr 1; omega) | simp) (Sub.cons rfl (by first | rfl | (congr 1; omega) | simp) (Sub.cons rfl (by first | rfl | (congr 1; omega) | simp) (Sub.nil _))))))), rfl⟩
        · exact (fun _ h => by rw [← row_again hF hS (avs_get hk) (by rw [aget_aput_same] at h4; exact h4)]; exact Sats.keep [false, true, true, true] h)
      · skip
        refine pk_skip ?_
        refine thru_on ?_
        refine pk_seq ?_
        refine pk_region ?_
        refine pk_val rfl rfl rfl (val_fieldAddr rfl Tryz.underlying26 3 1 (by kernel_rfl) (by decide) rfl (Ent.pure rfl)) ?_
        refine pk_val rfl rfl rfl (val_load rfl Tryz.underlying24 rfl rfl ((Ent.own 0 rfl).rd rfl)) ?_
        refine pk_val rfl rfl rfl (val_len_slice rfl Tryz.underlying24 rfl) ?_
        refine pk_val rfl rfl rfl (val_move rfl rfl) ?_
        refine pk_nil ?_
        refine thru_on ?_
        refine pk_block ?_
        refine pk_loop (α := Nat) (0) (fun j => [(3, .map (some bm3)), (7, .map (some bm7)), (6, .slice (some ⟨b29, 0, none⟩) vs.length vs.length), (31, .slice A vs.length c), (32, .int .i64 (vs.length : Nat)), (33, .int .i64 (k : Nat)), (9, ptr (some ⟨b9, 0, none⟩) 0), (48, .slice (vs.getD k dV).A (vs.getD k dV).a.keys.length (vs.getD k dV).c), (49, .int .i64 ((vs.getD k dV).a.keys.length : Nat)), (50, .int .i64 (j : Nat))]) (fun j => (own (some ⟨b9, 0, none⟩) 1 1 26 4 (vs.getD k dV).cells) :: (mapc (some bm7) encU encI (aput l2 (vs.getD k dV).a.id (aget l2 (vs.getD k dV).a.id 0 + 1))) :: (own (some ⟨b29, 0, none⟩) vs.length vs.length 23 1 ((rowB (avs vs) k j (vs.getD k dV).a).map (Value.int .u64))) :: (mapc (some bm3) encS encI l1) :: L) (fun j => j ≤ (vs.getD k dV).a.keys.length) (fun j => (vs.getD k dV).a.keys.length - j) ?_ ?_ ?_ ?_
        · (try dsimp only) <;> exact Nat.zero_le _
        · exact ⟨(Sub.cons rfl (by first | rfl | (congr 1; omega) | simp) (Sub.cons rfl (by first | rfl | (congr 1; omega) | simp) (Sub.cons rfl (by first | rfl | (congr 1; omega) | simp) (Sub.cons rfl (by first | rfl | (congr 1; omega) | simp) (Sub.cons rfl (by first | rfl | (congr 1; omega) | simp) (Sub.cons rfl (by first | rfl | (congr 1; omega) | simp) (Sub.cons rfl (by first | rfl | (congr 1; omega) | simp) (Sub.cons rfl (by first | rfl | (congr 1; omega) | simp) (Sub.cons rfl (by first | rfl | (congr 1; omega) | simp) (Sub.cons rfl (by first | rfl | (congr 1; omega) | simp) (Sub.nil _))))))))))), rfl⟩
        · exact (fun _ h => by rw [rowB_start]; exact h)
        rintro j hj0
        refine pk_seq ?_
        refine pk_region ?_
        refine pk_val rfl rfl rfl (val_lss rfl rfl rfl) ?_
        refine pk_nil ?_
        refine thru_on ?_
        refine pk_seq ?_
        refine pk_if rfl (fun h5 => ?_) (fun h5 => ?_)
        · skip
          refine pk_skip ?_
          refine thru_on ?_
          have hj : j < (vs.getD k dV).a.keys.length := by omega
          refine Pk.tells ((hV.cons.cons.cons.cons.keys _ hmem).some_of (by rw [List.length_map]; omega)) fun hA2 => ?_
          refine pk_seq ?_
          refine pk_block ?_
          refine pk_seq ?_
          refine pk_region ?_
          refine pk_val rfl rfl rfl (val_indexAddr rfl Tryz.underlying24 1 (by kernel_rfl) rfl rfl j rfl hj (Ent.pure hA2)) ?_
          refine pk_val rfl rfl rfl (val_load rfl Tryz.underlying9 rfl rfl ((hV.cons.cons.cons.cons.keys _ hmem).rd (get_map emp hj))) ?_
          refine pk_val rfl rfl rfl (val_assign rfl rfl) ?_
          refine pk_nil ?_
          refine thru_on ?_
          refine pk_seq ?_
          refine pk_region ?_
          refine pk_val rfl rfl rfl (val_move rfl rfl) ?_
          refine pk_val rfl rfl rfl (val_move rfl rfl) ?_
          refine pk_val rfl rfl rfl (val_lookup_ok (0) rfl Tryz.underlying249 (keyOk_string Tryz.underlying9) (by kernel_rfl) rfl rfl rfl (Ent.map 3 rfl)) ?_
          refine pk_val rfl rfl rfl (val_move rfl rfl) ?_
          refine pk_val rfl rfl rfl (val_extract rfl rfl rfl) ?_
          refine pk_val rfl rfl rfl (val_extract rfl rfl rfl) ?_
          refine pk_val rfl rfl rfl (val_assign rfl rfl) ?_
          refine pk_val rfl rfl rfl (val_assign rfl rfl) ?_
          refine pk_nil ?_
          refine thru_on ?_
          refine pk_seq ?_
          refine pk_region ?_
          refine pk_val rfl rfl rfl (val_move rfl rfl) ?_
          refine pk_nil ?_
          refine thru_on ?_
          refine pk_ifb rfl (fun h6 => ?_) (fun h6 => ?_)
          · skip
            refine pk_drawk (.val 0 (.val 1 (.val 2 (.val 3 (.val 4 (.val 5 (.val 6 (.val 7 (.val 8 (.val 9 (.eff 10 .nil))))))))))) 10 [] rfl (by kernel_rfl) (fun _ _ _ _ _ h => h) ?_
            obtain ⟨i, u, hik, hu, hue⟩ := hI.no _ h6
            have hi : i < vs.length := by omega
            have hgi : aget l1 ((vs.getD k dV).a.keys.getD j emp) 0 = (i : Int) := by rw [← hue]; exact (hI.ix i u hik hu).2
            refine ord_val rfl rfl rfl rfl (fun _ h => h) (val_move rfl rfl) ?_
            refine ord_val rfl rfl rfl rfl (fun _ h => h) (val_move rfl rfl) ?_
            refine ord_val rfl rfl rfl rfl (fun _ h => h) (val_move rfl rfl) ?_
            refine ord_val rfl rfl rfl rfl (fun _ h => h) (val_move rfl rfl) ?_
            refine ord_val rfl rfl rfl rfl (fun _ h => h) (val_indexAddr rfl Tryz.underlying54 1 (by kernel_rfl) rfl rfl i hgi hi (Ent.pure rfl)) ?_
            refine ord_val rfl rfl rfl rfl (fun _ h => h) (val_load (v := .int .u64 ((rowB (avs vs) k j (vs.getD k dV).a).getD i 0)) rfl Tryz.underlying23 rfl rfl ((Ent.own 2 rfl).rd (get_map 0 (by rw [rowB_length]; omega)))) ?_
            refine ord_val rfl rfl rfl rfl (fun _ h => h) (val_fieldAddr rfl Tryz.underlying26 1 1 (by kernel_rfl) (by decide) rfl (Ent.pure rfl)) ?_
            refine ord_val rfl rfl rfl rfl (fun _ h => h) (val_load rfl Tryz.underlying23 rfl rfl ((Ent.own 0 rfl).rd rfl)) ?_
            refine ord_val rfl rfl rfl rfl (fun _ h => h) (val_max2 rfl rfl rfl) ?_
            refine ord_val rfl rfl rfl rfl (fun _ h => h) (val_indexAddr rfl Tryz.underlying54 1 (by kernel_rfl) rfl rfl i hgi hi (Ent.pure rfl)) ?_
            refine ord_eff0 (eff_store 2 rfl rfl rfl rfl rfl (by kernel_rfl) rfl (by simp [rowB_length]; omega) (by simp)) rfl rfl rfl (.inl rfl) (fun _ _ => ?_)
            refine ord_nil ?_
            refine in_on ?_
            refine thru_on ?_
            refine pk_region ?_
            refine pk_val rfl rfl rfl (val_add rfl rfl rfl (by omega)) ?_
            refine pk_val rfl rfl rfl (val_move rfl rfl) ?_
            refine pk_nil ?_
            refine thru_on ?_
            refine pk_next (x := j) (j + 1) ?_ ?_ ?_ ?_
            · (try dsimp only) <;> exact hj
            · (try dsimp only); exact (by omega)
            · exact ⟨(Sub.cons rfl (by first | rfl | (congr 1; omega) | simp) (Sub.cons rfl (by first | rfl | (congr 1; omega) | simp) (Sub.cons rfl (by first | rfl | (congr 1; omega) | simp) (Sub.cons rfl (by first | rfl | (congr 1; omega) | simp) (Sub.cons rfl (by first | rfl | (congr 1; omega) | simp) (Sub.cons rfl (by first | rfl | (congr 1; omega) | simp) (Sub.cons rfl (by first | rfl | (congr 1; omega) | simp) (Sub.cons rfl (by first | rfl | (congr 1; omega) | simp) (Sub.cons rfl (by first | rfl | (congr 1; omega) | simp) (Sub.cons rfl (by first | rfl | (congr 1; omega) | simp) (Sub.nil _))))))))))), rfl⟩
            · exact (fun _ h => by rw [← rowB_hit hF hj hu hue, List.map_set, ← splice_one (by rw [List.length_map, rowB_length]; omega)]; rw [Nat.mul_one] at h; exact h)
          · skip
            refine pk_skip ?_
            refine in_on ?_
            refine thru_on ?_
            refine pk_region ?_
            refine pk_val rfl rfl rfl (val_add rfl rfl rfl (by omega)) ?_
            refine pk_val rfl rfl rfl (val_move rfl rfl) ?_
            refine pk_nil ?_
            refine thru_on ?_
            refine pk_next (x := j) (j + 1) ?_ ?_ ?_ ?_
            · (try dsimp only) <;> exact hj
            · (try dsimp only); exact (by omega)
            · exact ⟨(Sub.cons rfl (by first | rfl | (congr 1; omega) | simp) (Sub.cons rfl (by first | rfl | (congr 1; omega) | simp) (Sub.cons rfl (by first | rfl | (congr 1; omega) | simp) (Sub.cons rfl (by first | rfl | (congr 1; omega) | simp) (Sub.cons rfl (by first | rfl | (congr 1; omega) | simp) (Sub.cons rfl (by first | rfl | (congr 1; omega) | simp) (Sub.cons rfl (by first | rfl | (congr 1; omega) | simp) (Sub.cons rfl (by first | rfl | (congr 1; omega) | simp) (Sub.cons rfl (by first | rfl | (congr 1; omega) | simp) (Sub.cons rfl (by first | rfl | (congr 1; omega) | simp) (Sub.nil _))))))))))), rfl⟩
            · exact (fun _ h => by
              rw [← rowB_miss hj (fun u hu e => ?_)]; exact h
              obtain ⟨i, hi⟩ := List.mem_iff_getElem?.1 hu
              have := (hI.ix i u (by rw [← hal]; exact (List.getElem?_eq_some_iff.1 hi).1) hi).1
              rw [e, h6] at this; cases this)
        · skip
          refine pk_exit ?_
          refine thru ?_
          refine thru ?_
          refine pk_here ?_
          refine in_on ?_
          refine thru_on ?_
          refine pk_region ?_
          refine pk_val rfl rfl rfl (val_add rfl rfl rfl (by omega)) ?_
          refine pk_val rfl rfl rfl (val_move rfl rfl) ?_
          refine pk_nil ?_
          refine thru_on ?_
          refine pk_next (x := ⟨k, l2⟩) ((k + 1, aput l2 (vs.getD k dV).a.id (aget l2 (vs.getD k dV).a.id 0 + 1))) ?_ ?_ ?_ ?_
          · (try dsimp only) <;> exact ⟨by omega, hS.next (avs_get hk)⟩
          · (try dsimp only); exact (by omega)
          · exact ⟨(Sub.cons rfl (by first | rfl | (congr 1; omega) | simp) (Sub.cons rfl (by first | rfl | (congr 1; omega) | simp) (Sub.cons rfl (by first | rfl | (congr 1; omega) | simp) (Sub.cons rfl (by first | rfl | (congr 1; omega) | simp) (Sub.cons rfl (by first | rfl | (congr 1; omega) | simp) (Sub.cons rfl (by first | rfl | (congr 1; omega) | simp) (Sub.nil _))))))), rfl⟩
          · exact (fun _ h => by rw [← rowB_end (avs_get hk) (show (vs.getD k dV).a.keys.length ≤ j by omega)]; exact Sats.keep [false, true, true, true] h)
    · skip
      refine pk_exit ?_
      refine thru ?_
      refine thru ?_
      refine pk_here ?_
      refine thru_on ?_
      refine pk_seq ?_
      refine pk_region ?_
      refine pk_val rfl rfl rfl (val_move rfl rfl) ?_
      refine pk_val rfl rfl rfl (val_assign rfl rfl) ?_
      refine pk_nil ?_
      refine thru_on ?_
      refine pk_ret ?_
      have hkk : k = vs.length := by omega
      subst hkk
      refine ret1 rfl rfl fun w s => ⟨b29, trivial, rfl, s.to fun _ h => ?_⟩
      rw [grtL]
      rw [List.take_of_length_le (by simp [avs])] at h
      exact Sats.keep [false, true, false] h
end Go.Proofs.YtdpckendkklfdaaGreat
