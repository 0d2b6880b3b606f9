/- The walks that package shard reaches, third part: Group, GroupPairs. -/
import Derived.Test.YtdpckendkklfdaaShB
set_option linter.unusedVariables false
set_option linter.unusedSimpArgs false
set_option maxRecDepth 100000
namespace Go.Proofs.Ytdpckendkklfdaa
open Go.RowKit Go.Proofs.Eng
/-- what Group does with one key -/
def grpStep {α : Type} (es : List (Int × List α)) (p : Int) (x : α) : List (Int × List α) :=
  let es' := if bsB (es.map (·.1)) p = true then es else es.take (bsI (es.map (·.1)) p) ++ [(p, [])] ++ es.drop (bsI (es.map (·.1)) p)
  es'.set (bsI (es.map (·.1)) p) ((es'.getD (bsI (es.map (·.1)) p) (0, [])).1, (es'.getD (bsI (es.map (·.1)) p) (0, [])).2 ++ [x])
def grpF {α : Type} (f : α → Int) (xs : List α) : List (Int × List α) := xs.foldl (fun es x => grpStep es (f x) x) []
theorem grpF_snoc {α : Type} (f : α → Int) (xs : List α) (x : α) : grpF f (xs ++ [x]) = grpStep (grpF f xs) (f x) x := by simp [grpF]
theorem grpF_take {α : Type} (f : α → Int) (d : α) {xs : List α} {k : Nat} (h : k < xs.length) : grpF f (xs.take (k + 1)) = grpStep (grpF f (xs.take k)) (f (xs.getD k d)) (xs.getD k d) := by
  rw [List.take_succ_eq_append_getElem h, grpF_snoc]; simp [h]
/-- a group, and where its list lies -/
structure GR (α : Type) where
  p : Int
  l : List α
  A : Option Addr
  c : Nat
def dGR {α : Type} : GR α := ⟨0, [], none, 0⟩
def GR.e {α : Type} (g : GR α) : Int × Value := (g.p, .slice g.A g.l.length g.c)
def GR.a {α : Type} (g : GR α) : Int × List α := (g.p, g.l)
def GR.cells {α : Type} (g : GR α) : List Value := [.int .i64 g.p, .slice g.A g.l.length g.c]
theorem GR.cells_len {α : Type} (g : GR α) : g.cells.length = 2 := rfl
theorem gr_flat {α : Type} (gs : List (GR α)) : (gs.map GR.e).flatMap cells2 = gs.flatMap GR.cells := by
  rw [List.flatMap_map]; rfl
theorem gr_len {α : Type} (gs : List (GR α)) : (gs.flatMap GR.cells).length = gs.length * 2 := flat_length GR.cells_len gs
theorem gr_keys {α : Type} (gs : List (GR α)) : (gs.map GR.e).map (·.1) = (gs.map GR.a).map (·.1) := by simp [GR.e, GR.a]
theorem gr_one {α : Type} (gs : List (GR α)) : (gs.flatMap GR.cells).all (·.oneCell') = true := by
  rw [List.all_flatMap]
  refine List.all_eq_true.2 fun v _ => ?_
  simp [GR.cells, Value.oneCell']
theorem grp_upd {α : Type} {gs : List (GR α)} {i : Nat} {x : α} {q : Option Addr × Nat} (h : i < gs.length) :
    (gs.set i ⟨(gs.getD i dGR).p, (gs.getD i dGR).l ++ [x], q.1, q.2⟩).map GR.a = (gs.map GR.a).set i (((gs.map GR.a).getD i (0, [])).1, ((gs.map GR.a).getD i (0, [])).2 ++ [x]) := by
  rw [map_getD GR.a dGR h, List.map_set]; rfl
theorem bsB_lt {es : List Int} {p : Int} (h : bsB es p = true) : bsI es p < es.length := by
  simp only [bsB, Bool.and_eq_true, decide_eq_true_eq] at h; exact h.1
def grCh {α : Type} (T : TypeId) (sz : Nat) (enc : α → List Value) (g : GR α) : Ch := own g.A g.l.length g.c T sz (g.l.flatMap enc)
def sC1 : ByteArray → List Value := fun s => [.string s]
theorem sC1_map (l : List ByteArray) : l.flatMap sC1 = l.map .string := by induction l with
  | nil => rfl
  | cons a l ih => rw [List.flatMap_cons, ih]; rfl
abbrev Pr := ByteArray × ByteArray
def pC2 : Pr → List Value := fun p => [.string p.1, .string p.2]
theorem pC2_len (p : Pr) : (pC2 p).length = 2 := rfl
theorem sC1_len (p : ByteArray) : (sC1 p).length = 1 := rfl
def dPr : Pr := (emp, emp)
def ofI (parts : Nat) (s : ByteArray) : Int := ((ofN s parts : Nat) : Int)
theorem all_map_flat {α : Type} {enc : α → List Value} (h : ∀ x, (enc x).all (·.oneCell') = true) (l : List α) : (l.flatMap enc).all (·.oneCell') = true := by
  rw [List.all_flatMap]
  exact List.all_eq_true.2 fun v _ => h v
theorem shard_Group_c {E w : World} {L : List Ch} {A : Option Addr} {c parts : Nat} {xs : List ByteArray} (s : Sat E w L) (hr : Ent L (RdL A (xs.map .string))) (hsz : ∀ x ∈ xs, x.size ≤ 4611686018427387904) (hn : xs.length ≤ 1099511627776) (hm : mayP (parts : Int) = true) :
    Calls Try.prog 14 #[.slice A xs.length c, .int .i64 (parts : Nat)] w (GivesX E (fun q : Option Addr × Nat × List (GR ByteArray) => .tuple #[.slice q.1 q.2.2.length q.2.1, .int .i64 0]) (fun q => own q.1 q.2.2.length q.2.1 57 2 (q.2.2.flatMap GR.cells) :: cat (q.2.2.map (grCh 9 1 sC1)) :: L) (fun q => q.2.2.map GR.a = grpF (ofI parts) xs ∧ q.2.2.length ≤ xs.length ∧ ∀ g ∈ q.2.2, g.l.length ≤ xs.length)) := by
  have hAn : 0 < xs.length → A.isSome = true := fun h => by
    obtain ⟨a, ha, _⟩ := hr _ s.heap 0 _ (List.getElem?_eq_getElem (by simpa using h))
    simp [ha]
  refine enter (vs := [_, _]) Try.func14 rfl Try.ntmps14 rfl s ?_
  have hp : 1 ≤ parts ∧ parts ≤ 64 := by simp only [mayP, Bool.and_eq_true, decide_eq_true_eq] at hm; omega
  refine pk_seq ?_
  refine pk_region ?_
  refine pk_val rfl rfl rfl (val_assign rfl rfl) ?_
  refine pk_val rfl rfl rfl (val_assign rfl rfl) ?_
  refine pk_nil ?_
  refine thru_on ?_
  refine pk_seq ?_
  refine pk_seq ?_
  refine pk_region ?_
  refine pk_val rfl rfl rfl (val_move rfl rfl) ?_
  refine pk_eff (eff_call1 rfl ⟨_, Try.func36, by kernel_rfl, rfl⟩ rfl (fun E w s => shard_may_c s)) rfl rfl rfl (fun _ _ => ?_)
  refine pk_val rfl rfl rfl (val_not rfl rfl) ?_
  refine pk_nil ?_
  refine thru_on ?_
  refine pk_ifn rfl (fun h => ?_) (fun h => ?_)
  · skip
    refine pk_seq ?_
    refine pk_region ?_
    refine pk_val rfl rfl rfl (val_assign rfl rfl) ?_
    refine pk_val rfl rfl rfl (val_assign rfl rfl) ?_
    refine pk_nil ?_
    refine thru_on ?_
    refine pk_ret ?_
    refine thru_ret ?_
    rw [hm] at h; cases h
  · skip
    refine pk_skip ?_
    refine thru_on ?_
    refine Pk.nilrow 57 2 ?_
    refine Pk.heap (fun _ h => Sats.cat_nil (f := grCh 9 1 sC1) h) ?_
    refine pk_seq ?_
    refine pk_region ?_
    refine pk_val rfl rfl rfl (val_assign rfl rfl) ?_
    refine pk_nil ?_
    refine thru_on ?_
    refine pk_seq ?_
    refine pk_seq ?_
    refine pk_region ?_
    refine pk_val rfl rfl rfl (val_move rfl rfl) ?_
    refine pk_val rfl rfl rfl (val_len_slice rfl Try.underlying34 rfl) ?_
    refine pk_val rfl rfl rfl (val_move rfl rfl) ?_
    refine pk_nil ?_
    refine thru_on ?_
    refine pk_block ?_
    refine pk_loop (α := Nat × Option Addr × Nat × List (GR ByteArray)) ((0, none, 0, [])) (fun y => [(1, .int .i64 (parts : Nat)), (15, .slice A xs.length c), (16, .int .i64 (xs.length : Nat)), (17, .int .i64 (y.1 : Nat)), (6, .slice y.2.1 y.2.2.2.length y.2.2.1)]) (fun y => (own y.2.1 (y.2.2.2).length y.2.2.1 57 2 ((y.2.2.2).flatMap GR.cells)) :: (cat ((y.2.2.2).map (grCh 9 1 sC1))) :: L) (fun y => y.1 ≤ xs.length ∧ y.2.2.2.map GR.a = grpF (ofI parts) (xs.take y.1) ∧ y.2.2.2.length ≤ y.1 ∧ ∀ g ∈ y.2.2.2, g.l.length ≤ y.1) (fun y => xs.length - y.1) ?_ ?_ ?_ ?_
    · (try dsimp only) <;> exact ⟨Nat.zero_le _, rfl, Nat.zero_le _, fun g hg => by cases hg⟩
    · exact ⟨(Sub.cons rfl (by first | rfl | (congr 1; omega) | simp) (Sub.cons rfl (by first | rfl | (congr 1; omega) | simp) (Sub.cons rfl (by first | rfl | (congr 1; omega) | simp) (Sub.cons rfl (by first | rfl | (congr 1; omega) | simp) (Sub.cons rfl (by first | rfl | (congr 1; omega) | simp) (Sub.nil _)))))), rfl⟩
    · exact (fun _ h => (Sats.pick 2 [1, 0] rfl h :))
    rintro ⟨k, q, d, gs⟩ ⟨hk0, hI, hgl, hgk⟩
    dsimp only at hk0 hI hgl hgk ⊢
    refine pk_seq ?_
    refine pk_region ?_
    refine pk_val rfl rfl rfl (val_lss rfl rfl rfl) ?_
    refine pk_nil ?_
    refine thru_on ?_
    refine pk_seq ?_
    refine pk_if rfl (fun h1 => ?_) (fun h1 => ?_)
    · skip
      refine pk_skip ?_
      refine thru_on ?_
      have hk : k < xs.length := by omega
      have hA : A.isSome = true := hAn (by omega)
      obtain ⟨i, hi0⟩ : ∃ i, i = bsI ((gs.map GR.e).map (·.1)) (ofI parts (xs.getD k emp)) := ⟨_, rfl⟩
      have hile : i ≤ gs.length := by have := bsI_le ((gs.map GR.e).map (·.1)) (ofI parts (xs.getD k emp)); rw [← hi0] at this; simpa using this
      refine pk_seq ?_
      refine pk_block ?_
      refine pk_seq ?_
      refine pk_region ?_
      refine pk_val rfl rfl rfl (val_indexAddr rfl Try.underlying34 1 (by kernel_rfl) rfl rfl k rfl hk (Ent.pure hA)) ?_
      refine pk_val rfl rfl rfl (val_load rfl Try.underlying9 rfl rfl (hr.cons.cons.rd (get_map emp hk))) ?_
      refine pk_val rfl rfl rfl (val_assign rfl rfl) ?_
      refine pk_nil ?_
      refine thru_on ?_
      refine pk_seq ?_
      refine pk_region ?_
      refine pk_val rfl rfl rfl (val_move rfl rfl) ?_
      refine pk_val rfl rfl rfl (val_move rfl rfl) ?_
      refine pk_eff (eff_call1 rfl ⟨_, Try.func37, by kernel_rfl, rfl⟩ rfl (fun E w s => shard_of_c s (hsz _ (getD_mem emp hk)) (by omega) (by omega))) rfl rfl rfl (fun _ _ => ?_)
      refine pk_val rfl rfl rfl (val_assign rfl rfl) ?_
      refine pk_nil ?_
      refine thru_on ?_
      refine pk_seq ?_
      refine pk_region ?_
      refine pk_val rfl rfl rfl (val_move rfl rfl) ?_
      refine pk_val rfl rfl rfl (val_move rfl rfl) ?_
      refine pk_eff (eff_call1 rfl ⟨_, Try.func38, by kernel_rfl, rfl⟩ rfl (fun E w s => BSearch_Part_c (es := gs.map GR.e) s (by rw [gr_flat]; exact Ent.own 0 rfl) (by simp) (by simp; omega))) rfl rfl rfl (fun _ _ => ?_)
      refine pk_val rfl rfl rfl (val_move rfl rfl) ?_
      refine pk_val rfl rfl rfl (val_extract rfl rfl rfl) ?_
      refine pk_val rfl rfl rfl (val_extract rfl rfl rfl) ?_
      refine pk_val rfl rfl rfl (val_assign rfl rfl) ?_
      refine pk_val rfl rfl rfl (val_assign rfl rfl) ?_
      refine pk_nil ?_
      refine thru_on ?_
      refine pk_cut (α := Option Addr × Nat × List (GR ByteArray)) (fun y => [(1, .int .i64 (parts : Nat)), (8, .string (xs.getD k emp)), (10, .int .i64 (i : Nat)), (15, .slice A xs.length c), (16, .int .i64 (xs.length : Nat)), (17, .int .i64 (k : Nat)), (6, .slice y.1 y.2.2.length y.2.1)]) (fun y => (own y.1 (y.2.2).length y.2.1 57 2 ((y.2.2).flatMap GR.cells)) :: (cat ((y.2.2).map (grCh 9 1 sC1))) :: L) (fun y => i < y.2.2.length ∧ y.2.2.length ≤ k + 1 ∧ (∀ g ∈ y.2.2, g.l.length ≤ k) ∧ y.2.2.map GR.a = (if bsB ((gs.map GR.a).map (·.1)) (ofI parts (xs.getD k emp)) = true then gs.map GR.a else (gs.map GR.a).take i ++ [(ofI parts (xs.getD k emp), [])] ++ (gs.map GR.a).drop i)) ?_ ?_
      · skip
        refine Pk.slot 10 (v := .int .i64 (i : Nat)) rfl (by rw [hi0]; rfl) ?_
        refine pk_seq ?_
        refine pk_region ?_
        refine pk_val rfl rfl rfl (val_move rfl rfl) ?_
        refine pk_val rfl rfl rfl (val_not rfl rfl) ?_
        refine pk_nil ?_
        refine thru_on ?_
        refine pk_ifn rfl (fun h2 => ?_) (fun h2 => ?_)
        · skip
          have h2' : bsB ((gs.map GR.a).map (·.1)) (ofI parts (xs.getD k emp)) = false := by rw [← gr_keys]; exact h2
          have hins : ∀ j : Nat, j = i → (gs.flatMap GR.cells).take (j * 2) ++ [.int .i64 (ofI parts (xs.getD k emp)), .slice none 0 0] ++ (gs.flatMap GR.cells).drop (j * 2) = ((gs.take i ++ [(⟨ofI parts (xs.getD k emp), [], none, 0⟩ : GR ByteArray)] ++ gs.drop i).flatMap GR.cells) := fun j hj => by
            subst hj
            rw [(flat_take GR.cells_len gs j hile).1, (flat_take GR.cells_len gs j hile).2]; simp [GR.cells]
          refine pk_region ?_
          refine pk_val rfl rfl rfl (val_move rfl rfl) ?_
          refine pk_val rfl rfl rfl (val_move rfl rfl) ?_
          refine pk_val rfl rfl rfl (val_move rfl rfl) ?_
          refine pk_val rfl rfl rfl (val_build (z := [.int .i64 0, .slice none 0 0]) [(0, 1), (1, 1)] rfl Try.underlying57 (by kernel_rfl) (by kernel_rfl) rfl rfl rfl) ?_
          refine pk_eff (eff_buildSlice (len := 1) (sz := 2) (z := #[.int .i64 0, .slice none 0 0]) rfl Try.underlying48 (by kernel_rfl) rfl rfl rfl (by decide) (by decide) rfl rfl) rfl rfl rfl (fun b36 _ => ?_)
          refine pk_eff (eff_callx rfl ⟨_, Try.func41, by kernel_rfl, rfl⟩ rfl (fun E w s => Insert_Part_c (s.to (fun _ h => (Sats.pick 3 [1, 0, 2] rfl h :))) (gr_len gs) rfl (gr_one gs) rfl hile (by omega))) rfl rfl rfl (fun q37 _ => ?_)
          refine pk_val rfl rfl rfl (val_assign rfl rfl) ?_
          refine pk_nil ?_
          refine thru_on ?_
          refine pk_fin ((q37.1, q37.2, gs.take i ++ [⟨ofI parts (xs.getD k emp), [], none, 0⟩] ++ gs.drop i)) ?_ ?_ ?_
          · (try dsimp only) <;> exact ⟨by simp; omega, by simp; omega, fun g hg => by
            simp only [List.mem_append, List.mem_singleton] at hg
            rcases hg with (hg | hg) | hg
            · exact hgk g (List.mem_of_mem_take hg)
            · subst hg; simp
            · exact hgk g (List.mem_of_mem_drop hg), by rw [h2']; simp [GR.a]⟩
          · exact ⟨(Sub.cons rfl (by first | rfl | (congr 1; omega) | simp) (Sub.cons rfl (by first | rfl | (congr 1; omega) | simp) (Sub.cons rfl (by first | rfl | (congr 1; omega) | simp) (Sub.cons rfl (by first | rfl | (congr 1; omega) | simp) (Sub.cons rfl (by first | rfl | (congr 1; omega) | simp) (Sub.cons rfl (by first | rfl | (congr 1; omega) | simp) (Sub.cons rfl (by (try dsimp only); congr 1; simp; omega) (Sub.nil _)))))))), rfl⟩
          · exact (fun _ h => by
            have e : (gs.take i ++ [(⟨ofI parts (xs.getD k emp), [], none, 0⟩ : GR ByteArray)] ++ gs.drop i).length = gs.length + 1 := by simp; omega
            (try dsimp only)
            rw [e, ← hins i rfl]
            exact Sats.under (fun _ h => Sats.cat_ins i (Sats.nilrow h)) (h))
        · skip
          refine pk_skip ?_
          refine thru_on ?_
          have h2' : bsB ((gs.map GR.a).map (·.1)) (ofI parts (xs.getD k emp)) = true := by rw [← gr_keys]; exact h2
          have h3 : bsB ((gs.map GR.e).map (·.1)) (ofI parts (xs.getD k emp)) = true := h2
          have hlt : i < gs.length := by have := bsB_lt h3; rw [← hi0] at this; simpa using this
          refine pk_fin ((q, d, gs)) ?_ ?_ ?_
          · (try dsimp only) <;> exact ⟨hlt, by omega, hgk, by rw [h2']; rfl⟩
          · exact ⟨(Sub.cons rfl (by first | rfl | (congr 1; omega) | simp) (Sub.cons rfl (by first | rfl | (congr 1; omega) | simp) (Sub.cons rfl (by first | rfl | (congr 1; omega) | simp) (Sub.cons rfl (by first | rfl | (congr 1; omega) | simp) (Sub.cons rfl (by first | rfl | (congr 1; omega) | simp) (Sub.cons rfl (by first | rfl | (congr 1; omega) | simp) (Sub.cons rfl (by first | rfl | (congr 1; omega) | simp) (Sub.nil _)))))))), rfl⟩
          · exact (fun _ h => h)
      rintro ⟨q2, d2, es⟩ ⟨hi, hel, hek, hE⟩
      dsimp only at hi hel hek hE ⊢
      have hiA : 0 < (es.flatMap GR.cells).length := by rw [gr_len]; omega
      have hA2 : q2.isSome = true → True := fun _ => trivial
      refine Pk.tells ((Ent.own 0 rfl).some_of hiA) fun hA => ?_
      have hmem := getD_mem dGR hi
      have hll := hek _ hmem
      refine Pk.pull 1 rfl ?_
      refine Pk.heap (fun _ h => Sats.cat_at (f := grCh 9 1 sC1) i dGR hi h) ?_
      rw [grCh]
      refine pk_region ?_
      refine pk_val rfl rfl rfl (val_move rfl rfl) ?_
      refine pk_val rfl rfl rfl (val_move rfl rfl) ?_
      refine pk_val rfl rfl rfl (val_move rfl rfl) ?_
      refine pk_val rfl rfl rfl (val_move rfl rfl) ?_
      refine pk_val rfl rfl rfl (val_indexAddr rfl Try.underlying48 2 (by kernel_rfl) rfl rfl i rfl hi (Ent.pure hA)) ?_
      refine pk_val rfl rfl rfl (val_fieldAddr rfl Try.underlying57 1 1 (by kernel_rfl) (by decide) rfl (Ent.pure (by first | rfl | assumption))) ?_
      refine pk_val rfl rfl rfl (val_load (v := .slice (es.getD i dGR).A (es.getD i dGR).l.length (es.getD i dGR).c) rfl Try.underlying34 rfl rfl ((Ent.own 2 rfl).rd ((get_flat GR.cells_len dGR hi (by decide)).trans rfl))) ?_
      refine pk_val rfl rfl rfl (val_move rfl rfl) ?_
      refine pk_eff (eff_buildSlice (len := 1) (sz := 1) (z := #[.string ⟨#[]⟩]) rfl Try.underlying34 (by kernel_rfl) rfl rfl rfl (by decide) (by decide) rfl rfl) rfl rfl rfl (fun b46 _ => ?_)
      refine pk_eff (eff_append1 (sz := 1) (bytes := 16) (z := .string ⟨#[]⟩) 1 rfl Try.underlying34 (by kernel_rfl) rfl (by decide) (by decide) rfl rfl rfl (Ent.own 0 rfl) (flat_length sC1_len _) rfl rfl (by omega)) rfl rfl rfl (fun q47 _ => ?_)
      refine pk_val rfl rfl rfl (val_indexAddr rfl Try.underlying48 2 (by kernel_rfl) rfl rfl i rfl hi (Ent.pure hA)) ?_
      refine pk_val rfl rfl rfl (val_fieldAddr rfl Try.underlying57 1 1 (by kernel_rfl) (by decide) rfl (Ent.pure (by first | rfl | assumption))) ?_
      refine pk_eff0 (eff_store 3 rfl rfl rfl rfl rfl (by kernel_rfl) rfl (by rw [gr_len]; simp only [List.length_singleton]; omega) (by simp)) rfl rfl (fun _ _ => ?_)
      refine pk_nil ?_
      refine in_on ?_
      refine thru_on ?_
      refine pk_region ?_
      refine pk_val rfl rfl rfl (val_add rfl rfl rfl (by omega)) ?_
      refine pk_val rfl rfl rfl (val_move rfl rfl) ?_
      refine pk_nil ?_
      refine thru_on ?_
      refine pk_next (x := ⟨k, q, d, gs⟩) ((k + 1, q2, d2, es.set i ⟨(es.getD i dGR).p, (es.getD i dGR).l ++ [(xs.getD k emp)], q47.1, q47.2⟩)) ?_ ?_ ?_ ?_
      · (try dsimp only) <;> exact ⟨hk, by (try dsimp only); rw [grpF_take (ofI parts) emp hk, grp_upd hi, hE, hI]; simp only [grpStep]; rw [← hI, ← gr_keys, ← hi0], by simp; omega, fun g hg => by
        rcases List.mem_or_eq_of_mem_set hg with hg | hg
        · have := hek g hg; omega
        · subst hg; show ((es.getD i dGR).l ++ [_]).length ≤ k + 1; rw [List.length_append, List.length_singleton]; omega⟩
      · (try dsimp only); exact (by omega)
      · exact ⟨(Sub.cons rfl (by first | rfl | (congr 1; omega) | simp) (Sub.cons rfl (by first | rfl | (congr 1; omega) | simp) (Sub.cons rfl (by first | rfl | (congr 1; omega) | simp) (Sub.cons rfl (by first | rfl | (congr 1; omega) | simp) (Sub.cons rfl (by simp) (Sub.nil _)))))), rfl⟩
      · exact (fun _ h => by
        have h1 := ((Sats.pick 4 [3, 1, 2] rfl h :))
        have e : (es.getD i dGR).l.flatMap sC1 ++ [.string (xs.getD k emp)] = ((es.getD i dGR).l ++ [(xs.getD k emp)]).flatMap sC1 := by rw [List.flatMap_append]; rfl
        have e2 : splice (es.flatMap GR.cells) (i * 2 + 1) [.slice q47.1 ((es.getD i dGR).l.length + 1) q47.2] = (es.set i ⟨(es.getD i dGR).p, (es.getD i dGR).l ++ [(xs.getD k emp)], q47.1, q47.2⟩).flatMap GR.cells := flat_splice GR.cells_len dGR hi (by simp) (by simp [GR.cells, splice])
        (try dsimp only)
        rw [e2] at h1
        rw [List.length_set]
        refine Sats.under (fun _ h => Sats.cat_put (f := grCh 9 1 sC1) i hi ?_) h1
        rw [grCh, List.length_append, ← e]
        exact h)
    · skip
      refine pk_exit ?_
      refine thru ?_
      refine thru ?_
      refine pk_here ?_
      refine thru_on ?_
      refine pk_seq ?_
      refine pk_region ?_
      refine pk_val rfl rfl rfl (val_move rfl rfl) ?_
      refine pk_val rfl rfl rfl (val_assign rfl rfl) ?_
      refine pk_val rfl rfl rfl (val_assign rfl rfl) ?_
      refine pk_nil ?_
      refine thru_on ?_
      refine pk_ret ?_
      have hkk : k = xs.length := by omega
      rw [List.take_of_length_le (by omega)] at hI
      refine ret2 rfl rfl rfl fun w s => ⟨(q, d, gs), ⟨hI, by (try dsimp only); omega, fun g hg => by have := hgk g hg; omega⟩, rfl, s⟩
theorem shard_GroupPairs_c {E w : World} {L : List Ch} {A : Option Addr} {c parts : Nat} {xs : List Pr} (s : Sat E w L) (hr : Ent L (RdL A (xs.flatMap pC2))) (hsz : ∀ x ∈ xs, x.1.size ≤ 4611686018427387904) (hn : xs.length ≤ 1099511627776) (hm : mayP (parts : Int) = true) :
    Calls Try.prog 15 #[.slice A xs.length c, .int .i64 (parts : Nat)] w (GivesX E (fun q : Option Addr × Nat × List (GR Pr) => .tuple #[.slice q.1 q.2.2.length q.2.1, .int .i64 0]) (fun q => own q.1 q.2.2.length q.2.1 59 2 (q.2.2.flatMap GR.cells) :: cat (q.2.2.map (grCh 47 2 pC2)) :: L) (fun q => q.2.2.map GR.a = grpF (fun x => ofI parts (Prod.fst x)) xs ∧ q.2.2.length ≤ xs.length ∧ ∀ g ∈ q.2.2, g.l.length ≤ xs.length)) := by
  have hAn : 0 < xs.length → A.isSome = true := fun h => by
    obtain ⟨a, ha, _⟩ := hr _ s.heap 0 _ (List.getElem?_eq_getElem (by rw [flat_length pC2_len]; omega))
    simp [ha]
  refine enter (vs := [_, _]) Try.func15 rfl Try.ntmps15 rfl s ?_
  have hp : 1 ≤ parts ∧ parts ≤ 64 := by simp only [mayP, Bool.and_eq_true, decide_eq_true_eq] at hm; omega
  refine pk_seq ?_
  refine pk_region ?_
  refine pk_val rfl rfl rfl (val_assign rfl rfl) ?_
  refine pk_val rfl rfl rfl (val_assign rfl rfl) ?_
  refine pk_nil ?_
  refine thru_on ?_
  refine pk_seq ?_
  refine pk_seq ?_
  refine pk_region ?_
  refine pk_val rfl rfl rfl (val_move rfl rfl) ?_
  refine pk_eff (eff_call1 rfl ⟨_, Try.func36, by kernel_rfl, rfl⟩ rfl (fun E w s => shard_may_c s)) rfl rfl rfl (fun _ _ => ?_)
  refine pk_val rfl rfl rfl (val_not rfl rfl) ?_
  refine pk_nil ?_
  refine thru_on ?_
  refine pk_ifn rfl (fun h => ?_) (fun h => ?_)
  · skip
    refine pk_seq ?_
    refine pk_region ?_
    refine pk_val rfl rfl rfl (val_assign rfl rfl) ?_
    refine pk_val rfl rfl rfl (val_assign rfl rfl) ?_
    refine pk_nil ?_
    refine thru_on ?_
    refine pk_ret ?_
    refine thru_ret ?_
    rw [hm] at h; cases h
  · skip
    refine pk_skip ?_
    refine thru_on ?_
    refine Pk.nilrow 59 2 ?_
    refine Pk.heap (fun _ h => Sats.cat_nil (f := grCh 47 2 pC2) h) ?_
    refine pk_seq ?_
    refine pk_region ?_
    refine pk_val rfl rfl rfl (val_assign rfl rfl) ?_
    refine pk_nil ?_
    refine thru_on ?_
    refine pk_seq ?_
    refine pk_seq ?_
    refine pk_region ?_
    refine pk_val rfl rfl rfl (val_move rfl rfl) ?_
    refine pk_val rfl rfl rfl (val_len_slice rfl Try.underlying44 rfl) ?_
    refine pk_val rfl rfl rfl (val_move rfl rfl) ?_
    refine pk_nil ?_
    refine thru_on ?_
    refine pk_block ?_
    refine pk_loop (α := Nat × Option Addr × Nat × List (GR Pr)) ((0, none, 0, [])) (fun y => [(1, .int .i64 (parts : Nat)), (15, .slice A xs.length c), (16, .int .i64 (xs.length : Nat)), (17, .int .i64 (y.1 : Nat)), (6, .slice y.2.1 y.2.2.2.length y.2.2.1)]) (fun y => (own y.2.1 (y.2.2.2).length y.2.2.1 59 2 ((y.2.2.2).flatMap GR.cells)) :: (cat ((y.2.2.2).map (grCh 47 2 pC2))) :: L) (fun y => y.1 ≤ xs.length ∧ y.2.2.2.map GR.a = grpF (fun x => ofI parts (Prod.fst x)) (xs.take y.1) ∧ y.2.2.2.length ≤ y.1 ∧ ∀ g ∈ y.2.2.2, g.l.length ≤ y.1) (fun y => xs.length - y.1) ?_ ?_ ?_ ?_
    · (try dsimp only) <;> exact ⟨Nat.zero_le _, rfl, Nat.zero_le _, fun g hg => by cases hg⟩
    · exact ⟨(Sub.cons rfl (by first | rfl | (congr 1; omega) | simp) (Sub.cons rfl (by first | rfl | (congr 1; omega) | simp) (Sub.cons rfl (by first | rfl | (congr 1; omega) | simp) (Sub.cons rfl (by first | rfl | (congr 1; omega) | simp) (Sub.cons rfl (by first | rfl | (congr 1; omega) | simp) (Sub.nil _)))))), rfl⟩
    · exact (fun _ h => (Sats.pick 2 [1, 0] rfl h :))
    rintro ⟨k, q, d, gs⟩ ⟨hk0, hI, hgl, hgk⟩
    dsimp only at hk0 hI hgl hgk ⊢
    refine pk_seq ?_
    refine pk_region ?_
    refine pk_val rfl rfl rfl (val_lss rfl rfl rfl) ?_
    refine pk_nil ?_
    refine thru_on ?_
    refine pk_seq ?_
    refine pk_if rfl (fun h1 => ?_) (fun h1 => ?_)
    · skip
      refine pk_skip ?_
      refine thru_on ?_
      have hk : k < xs.length := by omega
      have hA : A.isSome = true := hAn (by omega)
      obtain ⟨i, hi0⟩ : ∃ i, i = bsI ((gs.map GR.e).map (·.1)) (ofI parts (Prod.fst (xs.getD k dPr))) := ⟨_, rfl⟩
      have hile : i ≤ gs.length := by have := bsI_le ((gs.map GR.e).map (·.1)) (ofI parts (Prod.fst (xs.getD k dPr))); rw [← hi0] at this; simpa using this
      refine pk_seq ?_
      refine pk_block ?_
      refine pk_seq ?_
      refine pk_region ?_
      refine pk_val rfl rfl rfl (val_indexAddr rfl Try.underlying44 2 (by kernel_rfl) rfl rfl k rfl hk (Ent.pure hA)) ?_
      refine pk_val rfl rfl rfl (val_loads (vs := pC2 (xs.getD k dPr)) rfl Try.underlying47 rfl (by kernel_rfl) rfl (Ent.pure hA) (hr.cons.cons.rds (flat_rds pC2_len dPr hk))) ?_
      refine pk_eff (eff_alloc (z := [.string ⟨#[]⟩, .string ⟨#[]⟩]) rfl (by kernel_rfl)) rfl rfl rfl (fun b8 _ => ?_)
      refine pk_eff0 (eff_storeW 0 rfl rfl rfl rfl rfl (by kernel_rfl) rfl rfl rfl) rfl rfl (fun _ _ => ?_)
      refine pk_nil ?_
      refine thru_on ?_
      refine pk_seq ?_
      refine pk_region ?_
      refine pk_val rfl rfl rfl (val_fieldAddr rfl Try.underlying47 0 1 (by kernel_rfl) (by decide) rfl (Ent.pure rfl)) ?_
      refine pk_val rfl rfl rfl (val_load (v := .string (xs.getD k dPr).1) rfl Try.underlying9 rfl rfl ((Ent.own 0 rfl).rd rfl)) ?_
      refine pk_val rfl rfl rfl (val_move rfl rfl) ?_
      refine pk_eff (eff_call1 rfl ⟨_, Try.func37, by kernel_rfl, rfl⟩ rfl (fun E w s => shard_of_c s (hsz _ (getD_mem dPr hk)) (by omega) (by omega))) rfl rfl rfl (fun _ _ => ?_)
      refine pk_val rfl rfl rfl (val_assign rfl rfl) ?_
      refine pk_nil ?_
      refine thru_on ?_
      refine pk_seq ?_
      refine pk_region ?_
      refine pk_val rfl rfl rfl (val_move rfl rfl) ?_
      refine pk_val rfl rfl rfl (val_move rfl rfl) ?_
      refine pk_eff (eff_call1 rfl ⟨_, Try.func42, by kernel_rfl, rfl⟩ rfl (fun E w s => BSearch_PairPart_c (es := gs.map GR.e) s (by rw [gr_flat]; exact Ent.own 1 rfl) (by simp) (by simp; omega))) rfl rfl rfl (fun _ _ => ?_)
      refine pk_val rfl rfl rfl (val_move rfl rfl) ?_
      refine pk_val rfl rfl rfl (val_extract rfl rfl rfl) ?_
      refine pk_val rfl rfl rfl (val_extract rfl rfl rfl) ?_
      refine pk_val rfl rfl rfl (val_assign rfl rfl) ?_
      refine pk_val rfl rfl rfl (val_assign rfl rfl) ?_
      refine pk_nil ?_
      refine thru_on ?_
      refine pk_cut (α := Option Addr × Nat × List (GR Pr)) (fun y => [(1, .int .i64 (parts : Nat)), (8, ptr (some ⟨b8, 0, none⟩) 0), (10, .int .i64 (i : Nat)), (15, .slice A xs.length c), (16, .int .i64 (xs.length : Nat)), (17, .int .i64 (k : Nat)), (6, .slice y.1 y.2.2.length y.2.1)]) (fun y => (own y.1 (y.2.2).length y.2.1 59 2 ((y.2.2).flatMap GR.cells)) :: (cat ((y.2.2).map (grCh 47 2 pC2))) :: (own (some ⟨b8, 0, none⟩) 1 1 47 2 [.string (xs.getD k dPr).1, .string (xs.getD k dPr).2]) :: L) (fun y => i < y.2.2.length ∧ y.2.2.length ≤ k + 1 ∧ (∀ g ∈ y.2.2, g.l.length ≤ k) ∧ y.2.2.map GR.a = (if bsB ((gs.map GR.a).map (·.1)) (ofI parts (Prod.fst (xs.getD k dPr))) = true then gs.map GR.a else (gs.map GR.a).take i ++ [(ofI parts (Prod.fst (xs.getD k dPr)), [])] ++ (gs.map GR.a).drop i)) ?_ ?_
      · skip
        refine Pk.slot 10 (v := .int .i64 (i : Nat)) rfl (by rw [hi0]; rfl) ?_
        refine pk_seq ?_
        refine pk_region ?_
        refine pk_val rfl rfl rfl (val_move rfl rfl) ?_
        refine pk_val rfl rfl rfl (val_not rfl rfl) ?_
        refine pk_nil ?_
        refine thru_on ?_
        refine pk_ifn rfl (fun h2 => ?_) (fun h2 => ?_)
        · skip
          have h2' : bsB ((gs.map GR.a).map (·.1)) (ofI parts (Prod.fst (xs.getD k dPr))) = false := by rw [← gr_keys]; exact h2
          have hins : ∀ j : Nat, j = i → (gs.flatMap GR.cells).take (j * 2) ++ [.int .i64 (ofI parts (Prod.fst (xs.getD k dPr))), .slice none 0 0] ++ (gs.flatMap GR.cells).drop (j * 2) = ((gs.take i ++ [(⟨ofI parts (Prod.fst (xs.getD k dPr)), [], none, 0⟩ : GR Pr)] ++ gs.drop i).flatMap GR.cells) := fun j hj => by
            subst hj
            rw [(flat_take GR.cells_len gs j hile).1, (flat_take GR.cells_len gs j hile).2]; simp [GR.cells]
          refine pk_region ?_
          refine pk_val rfl rfl rfl (val_move rfl rfl) ?_
          refine pk_val rfl rfl rfl (val_move rfl rfl) ?_
          refine pk_val rfl rfl rfl (val_move rfl rfl) ?_
          refine pk_val rfl rfl rfl (val_build (z := [.int .i64 0, .slice none 0 0]) [(0, 1), (1, 1)] rfl Try.underlying59 (by kernel_rfl) (by kernel_rfl) rfl rfl rfl) ?_
          refine pk_eff (eff_buildSlice (len := 1) (sz := 2) (z := #[.int .i64 0, .slice none 0 0]) rfl Try.underlying51 (by kernel_rfl) rfl rfl rfl (by decide) (by decide) rfl rfl) rfl rfl rfl (fun b37 _ => ?_)
          refine pk_eff (eff_callx rfl ⟨_, Try.func44, by kernel_rfl, rfl⟩ rfl (fun E w s => Insert_PairPart_c (s.to (fun _ h => (Sats.pick 4 [2, 0, 1, 3] rfl h :))) (gr_len gs) rfl (gr_one gs) rfl hile (by omega))) rfl rfl rfl (fun q38 _ => ?_)
          refine pk_val rfl rfl rfl (val_assign rfl rfl) ?_
          refine pk_nil ?_
          refine thru_on ?_
          refine pk_fin ((q38.1, q38.2, gs.take i ++ [⟨ofI parts (Prod.fst (xs.getD k dPr)), [], none, 0⟩] ++ gs.drop i)) ?_ ?_ ?_
          · (try dsimp only) <;> exact ⟨by simp; omega, by simp; omega, fun g hg => by
            simp only [List.mem_append, List.mem_singleton] at hg
            rcases hg with (hg | hg) | hg
            · exact hgk g (List.mem_of_mem_take hg)
            · subst hg; simp
            · exact hgk g (List.mem_of_mem_drop hg), by rw [h2']; simp [GR.a]⟩
          · exact ⟨(Sub.cons rfl (by first | rfl | (congr 1; omega) | simp) (Sub.cons rfl (by first | rfl | (congr 1; omega) | simp) (Sub.cons rfl (by first | rfl | (congr 1; omega) | simp) (Sub.cons rfl (by first | rfl | (congr 1; omega) | simp) (Sub.cons rfl (by first | rfl | (congr 1; omega) | simp) (Sub.cons rfl (by first | rfl | (congr 1; omega) | simp) (Sub.cons rfl (by (try dsimp only); congr 1; simp; omega) (Sub.nil _)))))))), rfl⟩
          · exact (fun _ h => by
            have e : (gs.take i ++ [(⟨ofI parts (Prod.fst (xs.getD k dPr)), [], none, 0⟩ : GR Pr)] ++ gs.drop i).length = gs.length + 1 := by simp; omega
            (try dsimp only)
            rw [e, ← hins i rfl]
            exact Sats.under (fun _ h => Sats.cat_ins i (Sats.nilrow h)) ((Sats.pick 3 [0, 2, 1] rfl h :)))
        · skip
          refine pk_skip ?_
          refine thru_on ?_
          have h2' : bsB ((gs.map GR.a).map (·.1)) (ofI parts (Prod.fst (xs.getD k dPr))) = true := by rw [← gr_keys]; exact h2
          have h3 : bsB ((gs.map GR.e).map (·.1)) (ofI parts (Prod.fst (xs.getD k dPr))) = true := h2
          have hlt : i < gs.length := by have := bsB_lt h3; rw [← hi0] at this; simpa using this
          refine pk_fin ((q, d, gs)) ?_ ?_ ?_
          · (try dsimp only) <;> exact ⟨hlt, by omega, hgk, by rw [h2']; rfl⟩
          · exact ⟨(Sub.cons rfl (by first | rfl | (congr 1; omega) | simp) (Sub.cons rfl (by first | rfl | (congr 1; omega) | simp) (Sub.cons rfl (by first | rfl | (congr 1; omega) | simp) (Sub.cons rfl (by first | rfl | (congr 1; omega) | simp) (Sub.cons rfl (by first | rfl | (congr 1; omega) | simp) (Sub.cons rfl (by first | rfl | (congr 1; omega) | simp) (Sub.cons rfl (by first | rfl | (congr 1; omega) | simp) (Sub.nil _)))))))), rfl⟩
          · exact (fun _ h => (Sats.pick 3 [1, 2, 0] rfl h :))
      rintro ⟨q2, d2, es⟩ ⟨hi, hel, hek, hE⟩
      dsimp only at hi hel hek hE ⊢
      have hiA : 0 < (es.flatMap GR.cells).length := by rw [gr_len]; omega
      have hA2 : q2.isSome = true → True := fun _ => trivial
      refine Pk.tells ((Ent.own 0 rfl).some_of hiA) fun hA => ?_
      have hmem := getD_mem dGR hi
      have hll := hek _ hmem
      refine Pk.pull 1 rfl ?_
      refine Pk.heap (fun _ h => Sats.cat_at (f := grCh 47 2 pC2) i dGR hi h) ?_
      rw [grCh]
      refine pk_drawk (.val 0 (.val 1 (.val 2 (.val 3 (.val 4 (.val 5 (.val 6 (.val 7 (.eff 8 (.eff 9 (.val 10 (.val 11 (.eff 12 .nil))))))))))))) 12 [false, true, true, true] rfl (by kernel_rfl) (fun _ _ _ _ _ h => h) ?_
      refine ord_val rfl rfl rfl rfl (fun _ h => (Sats.keep [false, true, true, true] h :)) (val_move rfl rfl) ?_
      refine ord_val rfl rfl rfl rfl (fun _ h => (Sats.keep [false, true, true, true] h :)) (val_move rfl rfl) ?_
      refine ord_val rfl rfl rfl rfl (fun _ h => (Sats.keep [false, true, true, true] h :)) (val_move rfl rfl) ?_
      refine ord_val rfl rfl rfl rfl (fun _ h => (Sats.keep [false, true, true, true] h :)) (val_move rfl rfl) ?_
      refine ord_val rfl rfl rfl rfl (fun _ h => (Sats.keep [false, true, true, true] h :)) (val_indexAddr rfl Try.underlying51 2 (by kernel_rfl) rfl rfl i rfl hi (Ent.pure hA)) ?_
      refine ord_val rfl rfl rfl rfl (fun _ h => (Sats.keep [false, true, true, true] h :)) (val_fieldAddr rfl Try.underlying59 1 1 (by kernel_rfl) (by decide) rfl (Ent.pure (by first | rfl | assumption))) ?_
      refine ord_val rfl rfl rfl rfl (fun _ h => (Sats.keep [false, true, true, true] h :)) (val_load (v := .slice (es.getD i dGR).A (es.getD i dGR).l.length (es.getD i dGR).c) rfl Try.underlying44 rfl rfl ((Ent.own 1 rfl).rd ((get_flat GR.cells_len dGR hi (by decide)).trans rfl))) ?_
      refine ord_val rfl rfl rfl rfl (fun _ h => (Sats.keep [false, true, true, true] h :)) (val_loads rfl Try.underlying47 rfl (by kernel_rfl) rfl (Ent.pure rfl) ((Ent.own 2 rfl).rds (fun j v h => by rw [Nat.zero_add j]; exact h))) ?_
      refine ord_eff (eff_buildSlice (len := 1) (sz := 2) (z := #[.string ⟨#[]⟩, .string ⟨#[]⟩]) rfl Try.underlying44 (by kernel_rfl) rfl rfl rfl (by decide) (by decide) rfl rfl) rfl rfl rfl rfl (.inr fun _ _ => (fun _ h => (Sats.keep [false, false, true, true, true] h :))) (fun b47 _ => ?_)
      refine ord_eff (eff_append1 (sz := 2) (bytes := 32) (z := .agg #[.string ⟨#[]⟩, .string ⟨#[]⟩]) 1 rfl Try.underlying44 (by kernel_rfl) rfl (by decide) (by decide) rfl rfl rfl (Ent.own 0 rfl) (flat_length pC2_len _) rfl rfl (by omega)) rfl rfl rfl rfl (.inr fun _ _ => (fun _ h => (Sats.keep [false, false, true, true, true] h :))) (fun q48 _ => ?_)
      refine ord_val rfl rfl rfl rfl (fun _ h => (Sats.keep [false, false, true, true, true] h :)) (val_indexAddr rfl Try.underlying51 2 (by kernel_rfl) rfl rfl i rfl hi (Ent.pure hA)) ?_
      refine ord_val rfl rfl rfl rfl (fun _ h => (Sats.keep [false, false, true, true, true] h :)) (val_fieldAddr rfl Try.underlying59 1 1 (by kernel_rfl) (by decide) rfl (Ent.pure (by first | rfl | assumption))) ?_
      refine ord_eff0 (eff_store 3 rfl rfl rfl rfl rfl (by kernel_rfl) rfl (by rw [gr_len]; simp only [List.length_singleton]; omega) (by simp)) rfl rfl rfl (.inl rfl) (fun _ _ => ?_)
      refine ord_nil ?_
      refine in_on ?_
      refine thru_on ?_
      refine pk_region ?_
      refine pk_val rfl rfl rfl (val_add rfl rfl rfl (by omega)) ?_
      refine pk_val rfl rfl rfl (val_move rfl rfl) ?_
      refine pk_nil ?_
      refine thru_on ?_
      refine pk_next (x := ⟨k, q, d, gs⟩) ((k + 1, q2, d2, es.set i ⟨(es.getD i dGR).p, (es.getD i dGR).l ++ [(xs.getD k dPr)], q48.1, q48.2⟩)) ?_ ?_ ?_ ?_
      · (try dsimp only) <;> exact ⟨hk, by (try dsimp only); rw [grpF_take (fun x => ofI parts (Prod.fst x)) dPr hk, grp_upd hi, hE, hI]; simp only [grpStep]; rw [← hI, ← gr_keys, ← hi0], by simp; omega, fun g hg => by
        rcases List.mem_or_eq_of_mem_set hg with hg | hg
        · have := hek g hg; omega
        · subst hg; show ((es.getD i dGR).l ++ [_]).length ≤ k + 1; rw [List.length_append, List.length_singleton]; omega⟩
      · (try dsimp only); exact (by omega)
      · exact ⟨(Sub.cons rfl (by first | rfl | (congr 1; omega) | simp) (Sub.cons rfl (by first | rfl | (congr 1; omega) | simp) (Sub.cons rfl (by first | rfl | (congr 1; omega) | simp) (Sub.cons rfl (by first | rfl | (congr 1; omega) | simp) (Sub.cons rfl (by simp) (Sub.nil _)))))), rfl⟩
      · exact (fun _ h => by
        have h1 := ((Sats.pick 5 [3, 1, 2] rfl h :))
        have e : (es.getD i dGR).l.flatMap pC2 ++ [.string (xs.getD k dPr).1, .string (xs.getD k dPr).2] = ((es.getD i dGR).l ++ [(xs.getD k dPr)]).flatMap pC2 := by rw [List.flatMap_append]; rfl
        have e2 : splice (es.flatMap GR.cells) (i * 2 + 1) [.slice q48.1 ((es.getD i dGR).l.length + 1) q48.2] = (es.set i ⟨(es.getD i dGR).p, (es.getD i dGR).l ++ [(xs.getD k dPr)], q48.1, q48.2⟩).flatMap GR.cells := flat_splice GR.cells_len dGR hi (by simp) (by simp [GR.cells, splice])
        (try dsimp only)
        rw [e2] at h1
        rw [List.length_set]
        refine Sats.under (fun _ h => Sats.cat_put (f := grCh 47 2 pC2) i hi ?_) h1
        rw [grCh, List.length_append, ← e]
        exact h)
    · skip
      refine pk_exit ?_
      refine thru ?_
      refine thru ?_
      refine pk_here ?_
      refine thru_on ?_
      refine pk_seq ?_
      refine pk_region ?_
      refine pk_val rfl rfl rfl (val_move rfl rfl) ?_
      refine pk_val rfl rfl rfl (val_assign rfl rfl) ?_
      refine pk_val rfl rfl rfl (val_assign rfl rfl) ?_
      refine pk_nil ?_
      refine thru_on ?_
      refine pk_ret ?_
      have hkk : k = xs.length := by omega
      rw [List.take_of_length_le (by omega)] at hI
      refine ret2 rfl rfl rfl fun w s => ⟨(q, d, gs), ⟨hI, by (try dsimp only); omega, fun g hg => by have := hgk g hg; omega⟩, rfl, s⟩
end Go.Proofs.Ytdpckendkklfdaa
