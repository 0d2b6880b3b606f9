/- The walks of package fix, sixth part: slices.Backward, Mend. -/
import Derived.Test.YtdpckendkklfdaaFixE
import Derived.Test.YtdpckendkklfdaaEngI
set_option linter.unusedVariables false
set_option linter.unusedSimpArgs false
set_option maxRecDepth 100000
namespace Go.Proofs.Ytdpckendkklfdaa
open Go.RowKit Go.Proofs.Eng
theorem Backward_c {E w : World} {L : List Ch} {A : Option Addr} {n c : Nat} (s : Sat E w L) :
    Calls Try.prog 32 #[.slice A n c] w (GivesX E (fun b : Nat => .func (.func 61) #[] #[ptr (some ⟨b, 0, none⟩) 0]) (fun b => own (some ⟨b, 0, none⟩) 1 1 23 1 [.slice A n c] :: L) (fun _ => True)) := by
  refine enter (vs := [_]) Try.func32 rfl Try.ntmps32 rfl s ?_
  refine pk_seq ?_
  refine pk_region ?_
  refine pk_eff (eff_box rfl rfl rfl) rfl rfl rfl (fun b1 _ => ?_)
  refine pk_val rfl rfl rfl (val_assign rfl rfl) ?_
  refine pk_nil ?_
  refine thru_on ?_
  refine pk_seq ?_
  refine pk_region ?_
  refine pk_val rfl rfl rfl (val_func rfl rfl rfl) ?_
  refine pk_val rfl rfl rfl (val_assign rfl rfl) ?_
  refine pk_nil ?_
  refine thru_on ?_
  refine pk_ret ?_
  refine ret1 rfl rfl fun w s => ⟨b1, trivial, rfl, s⟩
theorem Backward_it_c {E w : World} {l n' : Nat} {rc : Loop} {m0 : List (Nat × Value)} {ps : Array Nat} {L : Nat → List Ch} {A : Option Addr} {c : Nat} {vs : List Ver} {B : Addr} (s : Sat E w (lpc l rc :: L vs.length)) (hst : rc.state = .ready) (hpe : rc.pending = none) (hps : rc.params = ps) (hfr : Fr n' { tmps := rc.tmps, defers := [] } m0)
    (hsz : ps.size = 2) (hlt : (ps.toList.all fun t => Nat.blt t n') = true) (hV : ∀ k, VerIn (L k) A vs) (hB : ∀ k, Ent (L k) (RdL (some B) [.slice A vs.length c]))
    (hr : ∀ k, k < vs.length → Round Try.prog rc l E n' (putL ps.toList [.int .i64 (k : Nat), .agg (vs.getD k dV).cells.toArray] m0) (L (k + 1)) (fun _ : Unit => L k) (fun _ => True)) :
    Calls Try.prog 61 #[.func (.yield l) #[] #[], ptr (some B) 0] w (fun e w' => ∃ x : Unit, True ∧ (∃ v, e = .returned v) ∧ Sat E w' (lpc l rc :: L 0)) := by
  have hlen := (hV 0).len
  refine enter (vs := [_, _]) Try.func61 rfl Try.ntmps61 rfl s ?_
  refine pk_seq ?_
  refine pk_region ?_
  refine pk_val rfl rfl rfl (val_load rfl Try.underlying23 rfl rfl ((hB _).cons.rd rfl)) ?_
  refine pk_val rfl rfl rfl (val_len_slice rfl Try.underlying23 rfl) ?_
  refine pk_val rfl rfl rfl (val_sub rfl rfl rfl (by omega)) ?_
  refine pk_val rfl rfl rfl (val_assign rfl rfl) ?_
  refine pk_nil ?_
  refine thru_on ?_
  refine pk_block ?_
  refine pk_loop (α := Nat) (vs.length) (fun k => [(0, .func (.yield l) #[] #[]), (1, ptr (some B) 0), (3, .int .i64 ((k : Int) - 1))]) (fun k => (lpc l rc) :: (L k)) (fun k => k ≤ vs.length) (fun k => k) ?_ ?_ ?_ ?_
  · (try dsimp only); exact Nat.le_refl _
  · exact ⟨(Sub.cons rfl (by first | rfl | (congr 1; omega) | simp) (Sub.cons rfl (by first | rfl | (congr 1; omega) | simp) (Sub.cons rfl (by first | rfl | (congr 1; omega) | simp) (Sub.nil _)))), rfl⟩
  · exact (fun _ h => h)
  rintro k hk0
  refine pk_seq ?_
  refine pk_seq ?_
  refine pk_region ?_
  refine pk_val rfl rfl rfl (val_move rfl rfl) ?_
  refine pk_val rfl rfl rfl (val_geq rfl rfl rfl) ?_
  refine pk_nil ?_
  refine thru_on ?_
  refine pk_if rfl (fun h => ?_) (fun h => ?_)
  · skip
    refine pk_skip ?_
    refine thru_on ?_
    obtain ⟨j, hkj⟩ : ∃ j, k = j + 1 := ⟨k - 1, by omega⟩
    have hj : j < vs.length := by omega
    refine Pk.tells ((hV _).cons.rows.some_of (by rw [flat_length Ver.cells_len]; omega)) fun hA => ?_
    refine pk_seq ?_
    refine pk_block ?_
    refine pk_seq ?_
    refine pk_region_in ?_
    refine Pk.slot 3 (v := .int .i64 (j : Nat)) rfl (by congr 1; omega) ?_
    refine pkI_val rfl rfl rfl rfl (val_move rfl rfl) ?_
    refine pkI_val rfl rfl rfl rfl (val_move rfl rfl) ?_
    refine pkI_val rfl rfl rfl rfl (val_load rfl Try.underlying23 rfl rfl ((hB _).cons.rd rfl)) ?_
    refine pkI_val rfl rfl rfl rfl (val_move rfl rfl) ?_
    refine pkI_val rfl rfl rfl rfl (val_indexAddr rfl Try.underlying23 4 (by kernel_rfl) rfl rfl j (by omega) hj (Ent.pure hA)) ?_
    refine pkI_val rfl rfl rfl rfl (val_loads (vs := (vs.getD j dV).cells) rfl Try.underlying36 rfl (by kernel_rfl) rfl (Ent.pure hA) ((hV _).cons.rows.rds (flat_rds Ver.cells_len dV hj))) ?_
    refine pkI_yield (vs := [.int .i64 (j : Nat), .agg (vs.getD j dV).cells.toArray]) (m0 := m0) 0 rfl rfl (by (try dsimp only); first | rfl | (congr 1; congr 2; omega)) rfl hst hpe hfr (by rw [hps, hsz]; rfl) (by rw [hps]; exact hlt) (by rw [hps]; subst hkj; exact hr j hj) rfl rfl rfl (fun _ _ => ?_)
    refine pkI_val rfl rfl rfl rfl (val_not rfl rfl) ?_
    refine pkI_nil ?_
    refine thru_on ?_
    refine pk_cond_f rfl ?_
    refine pk_skip ?_
    refine in_on ?_
    refine thru_on ?_
    refine pk_region ?_
    refine pk_val rfl rfl rfl (val_move rfl rfl) ?_
    refine pk_val rfl rfl rfl (val_sub rfl rfl rfl (by omega)) ?_
    refine pk_val rfl rfl rfl (val_assign rfl rfl) ?_
    refine pk_nil ?_
    refine thru_on ?_
    refine pk_next (x := k) (j) ?_ ?_ ?_ ?_
    · (try dsimp only) <;> exact (by omega)
    · (try dsimp only); exact (by omega)
    · exact ⟨(Sub.cons rfl (by first | rfl | (congr 1; omega) | simp) (Sub.cons rfl (by first | rfl | (congr 1; omega) | simp) (Sub.cons rfl (by first | rfl | (congr 1; omega) | simp) (Sub.nil _)))), rfl⟩
    · exact (fun _ h => h)
  · skip
    refine pk_exit ?_
    refine thru ?_
    refine thru ?_
    refine pk_here ?_
    have hk : k = 0 := by omega
    subst hk
    refine end0 rfl fun w s => ⟨(), trivial, ⟨_, rfl⟩, s⟩
def keysCh (v : Ver) : Ch := own v.A v.a.keys.length v.c 9 1 (v.a.keys.map .string)
def fetchGo : List Av → Nat → List ((ByteArray × Int) × Int)
  | [], _ => []
  | v :: r, k => aput (fetchGo r (k + 1)) (v.key, v.id) (k : Int)
def fetchL (gs : List Av) (k : Nat) : List ((ByteArray × Int) × Int) := fetchGo (gs.drop k) k
theorem fetchL_end (gs : List Ver) : fetchL (avs gs) gs.length = [] := by
  rw [fetchL, List.drop_eq_nil_of_le (by simp [avs]), fetchGo]
theorem fetchL_step {gs : List Ver} {k : Nat} (h : k < gs.length) : fetchL (avs gs) k = aput (fetchL (avs gs) (k + 1)) ((gs.getD k dV).a.key, (gs.getD k dV).a.id) (k : Int) := by
  rw [fetchL, avs_drop h, fetchGo, fetchL]
theorem fetchGo_spec : ∀ (l : List Av) (k : Nat) (p : ByteArray × Int), (ahas (fetchGo l k) p = false ∧ l.find? (fun g => decide ((g.key, g.id) = p)) = none) ∨
    (ahas (fetchGo l k) p = true ∧ ∃ (i : Nat) (g : Av), aget (fetchGo l k) p 0 = ((k + i : Nat) : Int) ∧ l[i]? = some g ∧ l.find? (fun g => decide ((g.key, g.id) = p)) = some g)
  | [], k, p => .inl ⟨rfl, rfl⟩
  | v :: r, k, p => by
    by_cases e : (v.key, v.id) = p
    · subst e
      refine .inr ⟨ahas_aput_same _ _ _, 0, v, by rw [fetchGo, aget_aput_same]; simp, by simp, by simp⟩
    · have e' : p ≠ (v.key, v.id) := fun h => e h.symm
      rw [fetchGo, ahas_aput_other _ _ e', aget_aput_other _ _ _ e']
      have hd : decide ((v.key, v.id) = p) = false := decide_eq_false e
      rcases fetchGo_spec r (k + 1) p with ⟨h1, h2⟩ | ⟨h1, i, g, h2, h3, h4⟩
      · exact .inl ⟨h1, by rw [List.find?_cons, hd]; exact h2⟩
      · exact .inr ⟨h1, i + 1, g, by rw [h2]; congr 1; omega, by simpa using h3, by rw [List.find?_cons, hd]; exact h4⟩
def mapO (f : Av → Option Av) : List Av → Option (List Av)
  | [] => some []
  | v :: r => match f v, mapO f r with
    | some a, some b => some (a :: b)
    | _, _ => none
theorem mapO_snoc (f : Av → Option Av) (l : List Av) (v : Av) : mapO f (l ++ [v]) = match mapO f l, f v with
    | some a, some b => some (a ++ [b])
    | _, _ => none := by
  induction l with
  | nil => cases h : f v <;> simp [mapO, h]
  | cons u r ih =>
    rw [List.cons_append, mapO, mapO, ih]
    cases h1 : f u <;> cases h2 : mapO f r <;> cases h3 : f v <;> simp
theorem mapO_none {f : Av → Option Av} {l : List Av} {v : Av} (h : v ∈ l) (hv : f v = none) : mapO f l = none := by
  induction l with
  | nil => cases h
  | cons u r ih =>
    rcases List.mem_cons.1 h with rfl | h
    · rw [mapO, hv]
    · rw [mapO, ih h]; cases f u <;> rfl
theorem mapO_len {f : Av → Option Av} : ∀ {l r : List Av}, mapO f l = some r → r.length = l.length
  | [], r, h => by simp [mapO] at h; simp [← h]
  | v :: l, r, h => by
    rw [mapO] at h
    cases h1 : f v <;> rw [h1] at h
    · simp at h
    · cases h2 : mapO f l <;> rw [h2] at h
      · simp at h
      · simp at h; subst h; simp [mapO_len h2]
def mendF (l got : List Av) (v : Av) : Option Av := if v.id < grt l v.key then got.find? (fun g => decide ((g.key, g.id) = (v.key, grt l v.key))) else some v
def mendL (l got : List Av) : List Av := if formedB l = true then (mapO (mendF l got) l).getD [] else []
def mendE (l got : List Av) : Int := if formedB l = true then (if (mapO (mendF l got) l).isSome then 0 else 110) else 1
theorem pairOk_want : PairOk Try.prog 33 .u64 := ⟨⟨_, _, Try.underlying33, by decide, by decide, rfl, rfl, Try.underlying9, Try.underlying31⟩, by kernel_rfl⟩
abbrev MendR (l got : List Av) (L : List Ch) (q : Option Addr × Nat × List Ver) : List Ch := own q.1 q.2.2.length q.2.1 36 4 (q.2.2.flatMap Ver.cells) :: cat (q.2.2.map keysCh) :: L
theorem fix_Mend_c {E w : World} {L : List Ch} {A B : Option Addr} {c d : Nat} {vs gs : List Ver} (s : Sat E w L) (hV : VerIn L A vs) (hG : VerIn L B gs) :
    Calls Try.prog 10 #[.slice A vs.length c, .slice B gs.length d] w (GivesX E (fun q : Option Addr × Nat × List Ver => .tuple #[.slice q.1 q.2.2.length q.2.1, .int .i64 (mendE (avs vs) (avs gs))]) (MendR (avs vs) (avs gs) L) (fun q => avs q.2.2 = mendL (avs vs) (avs gs))) := by
  refine enterM (vs := [_, _]) Try.func10 rfl Try.ntmps10 rfl s ?_
  refine pk_seq ?_
  refine pk_region ?_
  refine pk_val rfl rfl rfl (val_assign rfl rfl) ?_
  refine pk_val rfl rfl rfl (val_assign rfl rfl) ?_
  refine pk_nil ?_
  refine thru_on ?_
  refine pk_seq ?_
  refine pk_seq ?_
  refine pk_region ?_
  refine pk_val rfl rfl rfl (val_move rfl rfl) ?_
  refine pk_eff (eff_call1 rfl ⟨_, Try.func28, by kernel_rfl, rfl⟩ rfl (fun E w s => fix_Formed_c s hV)) rfl rfl rfl (fun _ _ => ?_)
  refine pk_val rfl rfl rfl (val_not rfl rfl) ?_
  refine pk_nil ?_
  refine thru_on ?_
  refine pk_ifn rfl (fun hf => ?_) (fun hf => ?_)
  · skip
    refine pk_seq ?_
    refine pk_region ?_
    refine pk_val rfl rfl rfl (val_assign rfl rfl) ?_
    refine pk_val rfl rfl rfl (val_assign rfl rfl) ?_
    refine pk_nil ?_
    refine thru_on ?_
    refine pk_ret ?_
    refine thru_ret ?_
    refine retM0 (res2 rfl rfl rfl) fun w s => ⟨(none, 0, []), ?_, ?_, s.to fun _ h => ?_⟩
    · simp only [mendL, hf, Bool.false_eq_true, if_false]; rfl
    · simp [mendE, hf]
    · exact Sats.nilrow (Sats.cat_nil h)
  · skip
    refine pk_skip ?_
    refine thru_on ?_
    have hG0 := formedB_go hf
    have hlen := formedB_len hf
    have hal : (avs vs).length = vs.length := by simp [avs]
    rw [hal] at hlen
    refine pk_seq ?_
    refine pk_region ?_
    refine pk_eff (eff_mapNew (encP .u64) (encI) rfl) rfl rfl rfl (fun bm _ => ?_)
    refine pk_eff (eff_alloc (z := [.map none]) rfl (by kernel_rfl)) rfl rfl rfl (fun b6 _ => ?_)
    refine pk_eff0 (eff_storeW 0 rfl rfl rfl rfl rfl (by kernel_rfl) rfl rfl rfl) rfl rfl (fun _ _ => ?_)
    refine pk_nil ?_
    refine thru_on ?_
    refine pk_seq ?_
    refine pk_seq ?_
    refine pk_region ?_
    refine pk_val rfl rfl rfl (val_move rfl rfl) ?_
    refine pk_eff (eff_callx rfl ⟨_, Try.func32, by kernel_rfl, rfl⟩ rfl (fun E w s => Backward_c s)) rfl rfl rfl (fun b20 _ => ?_)
    refine pk_nil ?_
    refine thru_on ?_
    refine pk_block ?_
    refine pk_rangeFunc (α := Unit) (M := fun _ => (own (some ⟨b20, 0, none⟩) 1 1 23 1 [.slice B gs.length d]) :: (own (some ⟨b6, 0, none⟩) 1 1 78 1 [.map (some bm)]) :: (mapc (some bm) (encP .u64) encI (fetchL (avs gs) 0)) :: L) (p := fun _ => True) rfl ⟨_, Try.func61, by kernel_rfl, rfl⟩ rfl (fun E w l D rc h1 h2 h3 h4 h5 hfr s => ?_) (fun _ D _ => ?_)
    · skip
      refine Backward_it_c (A := B) (c := d) (vs := gs) (B := ⟨b20, 0, none⟩) (L := fun k => dfc D :: own (some ⟨b20, 0, none⟩) 1 1 23 1 [.slice B gs.length d] :: own (some ⟨b6, 0, none⟩) 1 1 78 1 [.map (some bm)] :: mapc (some bm) (encP .u64) encI (fetchL (avs gs) k) :: L) (s.to fun _ h => by (try dsimp only); rw [fetchL_end]; exact h) h1 h2 h3 hfr rfl rfl (fun k => hG.cons.cons.cons.cons) (fun k => Ent.own 1 rfl) (fun k hk => ?_)
      refine round_of h4 h5 ?_
      refine pkI_seq ?_
      refine pkI_region ?_
      refine pkI_val rfl rfl rfl rfl (val_assign rfl rfl) ?_
      refine pkI_nil ?_
      refine thru_on ?_
      refine pkI_region ?_
      refine pkI_eff (eff_alloc (z := [.string ⟨#[]⟩, .int .u64 0, .string ⟨#[]⟩, .slice none 0 0]) rfl (by kernel_rfl)) rfl rfl rfl rfl (fun b8 _ => ?_)
      refine pkI_eff0 (eff_storeW 0 rfl rfl rfl rfl rfl (by kernel_rfl) rfl rfl rfl) rfl rfl rfl (fun _ _ => ?_)
      refine pkI_nil ?_
      refine thru_on ?_
      refine Pk.pull 1 rfl ?_
      refine round_body ?_
      refine pkI_block ?_
      refine pkI_region ?_
      refine pkI_val rfl rfl rfl rfl (val_load rfl Try.underlying78 rfl rfl ((Ent.own 4 rfl).rd rfl)) ?_
      refine pkI_val rfl rfl rfl rfl (val_fieldAddr rfl Try.underlying36 0 1 (by kernel_rfl) (by decide) rfl (Ent.pure rfl)) ?_
      refine pkI_val rfl rfl rfl rfl (val_load rfl Try.underlying9 rfl rfl ((Ent.own 1 rfl).rd rfl)) ?_
      refine pkI_val rfl rfl rfl rfl (val_fieldAddr rfl Try.underlying36 1 1 (by kernel_rfl) (by decide) rfl (Ent.pure rfl)) ?_
      refine pkI_val rfl rfl rfl rfl (val_load rfl Try.underlying31 rfl rfl ((Ent.own 1 rfl).rd rfl)) ?_
      refine pkI_val rfl rfl rfl rfl (val_build (z := [.string ⟨#[]⟩, .int .u64 0]) [(0, 1), (1, 1)] rfl Try.underlying33 (by kernel_rfl) (by kernel_rfl) rfl rfl rfl) ?_
      refine pkI_val rfl rfl rfl rfl (val_move rfl rfl) ?_
      refine pkI_eff0 (eff_mapUpdate (k := ((gs.getD k dV).a.key, (gs.getD k dV).a.id)) 5 (k : Int) rfl Try.underlying78 (keyOk_pair pairOk_want) rfl rfl rfl rfl) rfl rfl rfl (fun _ _ => ?_)
      refine pkI_nil ?_
      refine in_on ?_
      exact round_end () trivial (fun _ h => by (try dsimp only); rw [fetchL_step hk]; exact Sats.keep [true, false, true, true, true, true] h)
    refine in_on ?_
    refine thru_on ?_
    refine Pk.nilrow 36 4 ?_
    refine Pk.heap (fun _ h => Sats.cat_nil (f := keysCh) h) ?_
    refine pk_seq ?_
    refine pk_region ?_
    refine pk_val rfl rfl rfl (val_assign rfl rfl) ?_
    refine pk_nil ?_
    refine thru_on ?_
    refine pk_seq ?_
    refine pk_seq ?_
    refine pk_region ?_
    refine pk_val rfl rfl rfl (val_move rfl rfl) ?_
    refine pk_eff (eff_callx rfl ⟨_, Try.func29, by kernel_rfl, rfl⟩ rfl (fun E w s => fix_greatest_c s hV.cons.cons.cons.cons.cons.cons hG0 hlen)) rfl rfl rfl (fun b31 _ => ?_)
    refine pk_val rfl rfl rfl (val_len_slice rfl Try.underlying74 rfl) ?_
    refine pk_val rfl rfl rfl (val_move rfl rfl) ?_
    refine pk_nil ?_
    refine thru_on ?_
    refine pk_block ?_
    refine pk_loop (α := Nat × Option Addr × Nat × List Ver) ((0, none, 0, [])) (fun y => [(0, .slice A vs.length c), (1, .slice B gs.length d), (6, ptr (some ⟨b6, 0, none⟩) 0), (9, .slice y.2.1 (y.2.2.2).length y.2.2.1), (31, .slice (some ⟨b31, 0, none⟩) vs.length vs.length), (32, .int .i64 (vs.length : Nat)), (65536, .pointer (some ⟨D, 0, none⟩)), (33, .int .i64 (y.1 : Nat))]) (fun y => (own y.2.1 y.2.2.2.length y.2.2.1 36 4 (y.2.2.2.flatMap Ver.cells)) :: (cat (y.2.2.2.map keysCh)) :: (own (some ⟨b31, 0, none⟩) vs.length vs.length 31 1 ((grtL (avs vs)).map (Value.int .u64))) :: (dfc D) :: (own (some ⟨b6, 0, none⟩) 1 1 78 1 [.map (some bm)]) :: (mapc (some bm) (encP .u64) encI (fetchL (avs gs) 0)) :: L) (fun y => y.1 ≤ vs.length ∧ mapO (mendF (avs vs) (avs gs)) ((avs vs).take y.1) = some (avs y.2.2.2)) (fun y => vs.length - y.1) ?_ ?_ ?_ ?_
    · (try dsimp only); exact ⟨Nat.zero_le _, rfl⟩
    · exact ⟨(Sub.cons rfl (by first | rfl | (congr 1; omega) | simp) (Sub.cons rfl (by first | rfl | (congr 1; omega) | simp) (Sub.cons rfl (by first | rfl | (congr 1; omega) | simp) (Sub.cons rfl (by first | rfl | (congr 1; omega) | simp) (Sub.cons rfl (by first | rfl | (congr 1; omega) | simp) (Sub.cons rfl (by first | rfl | (congr 1; omega) | simp) (Sub.cons rfl (by first | rfl | (congr 1; omega) | simp) (Sub.cons rfl (by first | rfl | (congr 1; omega) | simp) (Sub.nil _))))))))), rfl⟩
    · exact (fun _ h => (Sats.pick 7 [2, 1, 0, 3, 5, 6] rfl h :))
    rintro ⟨k, q, d', outs⟩ ⟨hk0, hI⟩
    dsimp only at hk0 hI ⊢
    have hol : outs.length = k := by have := mapO_len hI; simp [avs] at this; omega
    refine pk_seq ?_
    refine pk_region ?_
    refine pk_val rfl rfl rfl (val_lss rfl rfl rfl) ?_
    refine pk_nil ?_
    refine thru_on ?_
    refine pk_seq ?_
    refine pk_if rfl (fun h1 => ?_) (fun h1 => ?_)
    · skip
      refine pk_skip ?_
      refine thru_on ?_
      have hk : k < vs.length := by omega
      have hgl := grtL_get (avs_get hk)
      have hmem := getD_mem dV hk
      refine Pk.tells (hV.cons.cons.cons.cons.cons.cons.rows.some_of (by rw [flat_length Ver.cells_len]; omega)) fun hA => ?_
      refine pk_seq ?_
      refine pk_block ?_
      refine pk_seq ?_
      refine pk_region ?_
      refine pk_val rfl rfl rfl (val_move rfl rfl) ?_
      refine pk_val rfl rfl rfl (val_indexAddr rfl Try.underlying74 1 (by kernel_rfl) rfl rfl k rfl hk (Ent.pure rfl)) ?_
      refine pk_val rfl rfl rfl (val_load (v := .int .u64 ((grtL (avs vs)).getD k 0)) rfl Try.underlying31 rfl rfl ((Ent.own 2 rfl).rd (get_map 0 (by simp [grtL, hal]; omega)))) ?_
      refine pk_val rfl rfl rfl (val_assign rfl rfl) ?_
      refine pk_val rfl rfl rfl (val_assign rfl rfl) ?_
      refine pk_nil ?_
      refine thru_on ?_
      refine pk_seq ?_
      refine pk_region ?_
      refine pk_val rfl rfl rfl (val_move rfl rfl) ?_
      refine pk_val rfl rfl rfl (val_move rfl rfl) ?_
      refine pk_val rfl rfl rfl (val_indexAddr rfl Try.underlying23 4 (by kernel_rfl) rfl rfl k rfl hk (Ent.pure hA)) ?_
      refine pk_val rfl rfl rfl (val_loads (vs := (vs.getD k dV).cells) rfl Try.underlying36 rfl (by kernel_rfl) rfl (Ent.pure hA) (hV.cons.cons.cons.cons.cons.cons.rows.rds (flat_rds Ver.cells_len dV hk))) ?_
      refine pk_eff (eff_alloc (z := [.string ⟨#[]⟩, .int .u64 0, .string ⟨#[]⟩, .slice none 0 0]) rfl (by kernel_rfl)) rfl rfl rfl (fun b12 _ => ?_)
      refine pk_eff0 (eff_storeW 0 rfl rfl rfl rfl rfl (by kernel_rfl) rfl rfl rfl) rfl rfl (fun _ _ => ?_)
      refine pk_nil ?_
      refine thru_on ?_
      refine pk_cut (α := Ver) (fun y => [(0, .slice A vs.length c), (1, .slice B gs.length d), (6, ptr (some ⟨b6, 0, none⟩) 0), (9, .slice q (outs).length d'), (31, .slice (some ⟨b31, 0, none⟩) vs.length vs.length), (32, .int .i64 (vs.length : Nat)), (65536, .pointer (some ⟨D, 0, none⟩)), (33, .int .i64 (k : Nat)), (12, ptr (some ⟨b12, 0, none⟩) 0)]) (fun y => (own (some ⟨b12, 0, none⟩) 1 1 36 4 y.cells) :: (own q outs.length d' 36 4 (outs.flatMap Ver.cells)) :: (cat (outs.map keysCh)) :: (own (some ⟨b31, 0, none⟩) vs.length vs.length 31 1 ((grtL (avs vs)).map (Value.int .u64))) :: (dfc D) :: (own (some ⟨b6, 0, none⟩) 1 1 78 1 [.map (some bm)]) :: (mapc (some bm) (encP .u64) encI (fetchL (avs gs) 0)) :: L) (fun y => mendF (avs vs) (avs gs) (vs.getD k dV).a = some y.a ∧ Ent L (RdL y.A (y.a.keys.map .string)) ∧ y.a.keys.length ≤ 1099511627776) ?_ ?_
      · skip
        refine pk_seq ?_
        refine pk_region ?_
        refine pk_val rfl rfl rfl (val_move rfl rfl) ?_
        refine pk_val rfl rfl rfl (val_fieldAddr rfl Try.underlying36 1 1 (by kernel_rfl) (by decide) rfl (Ent.pure rfl)) ?_
        refine pk_val rfl rfl rfl (val_load rfl Try.underlying31 rfl rfl ((Ent.own 0 rfl).rd rfl)) ?_
        refine pk_val rfl rfl rfl (val_gtr rfl rfl rfl) ?_
        refine pk_nil ?_
        refine thru_on ?_
        refine pk_if rfl (fun h2 => ?_) (fun h2 => ?_)
        · skip
          rw [hgl] at h2
          refine pk_seq ?_
          refine pk_region ?_
          refine pk_val rfl rfl rfl (val_load rfl Try.underlying78 rfl rfl ((Ent.own 5 rfl).rd rfl)) ?_
          refine pk_val rfl rfl rfl (val_fieldAddr rfl Try.underlying36 0 1 (by kernel_rfl) (by decide) rfl (Ent.pure rfl)) ?_
          refine pk_val rfl rfl rfl (val_load rfl Try.underlying9 rfl rfl ((Ent.own 0 rfl).rd rfl)) ?_
          refine pk_val rfl rfl rfl (val_move rfl rfl) ?_
          refine pk_val rfl rfl rfl (val_build (z := [.string ⟨#[]⟩, .int .u64 0]) [(0, 1), (1, 1)] rfl Try.underlying33 (by kernel_rfl) (by kernel_rfl) rfl rfl rfl) ?_
          refine pk_val rfl rfl rfl (val_lookup_ok (k := ((vs.getD k dV).a.key, (grtL (avs vs)).getD k 0)) (0 : Int) rfl Try.underlying78 (keyOk_pair pairOk_want) (by kernel_rfl) rfl rfl rfl (Ent.map 6 rfl)) ?_
          refine pk_val rfl rfl rfl (val_move rfl rfl) ?_
          refine pk_val rfl rfl rfl (val_extract rfl rfl rfl) ?_
          refine pk_val rfl rfl rfl (val_extract rfl rfl rfl) ?_
          refine pk_val rfl rfl rfl (val_assign rfl rfl) ?_
          refine pk_val rfl rfl rfl (val_assign rfl rfl) ?_
          refine pk_nil ?_
          refine thru_on ?_
          refine pk_seq ?_
          refine pk_seq ?_
          refine pk_region ?_
          have hfs := fetchGo_spec (avs gs) 0 ((vs.getD k dV).a.key, (grtL (avs vs)).getD k 0)
          have hnone : ahas (fetchL (avs gs) 0) ((vs.getD k dV).a.key, (grtL (avs vs)).getD k 0) = false → (avs gs).find? (fun g => decide ((g.key, g.id) = ((vs.getD k dV).a.key, grt (avs vs) (vs.getD k dV).a.key))) = none := fun h => by
            rw [fetchL, List.drop_zero] at h
            rcases hfs with ⟨_, h2⟩ | ⟨h1, _⟩
            · rw [← hgl]; exact h2
            · rw [h1] at h; cases h
          have hsome : ahas (fetchL (avs gs) 0) ((vs.getD k dV).a.key, (grtL (avs vs)).getD k 0) = true → ∃ i, i < gs.length ∧ aget (fetchL (avs gs) 0) ((vs.getD k dV).a.key, (grtL (avs vs)).getD k 0) 0 = (i : Int) ∧ (avs gs).find? (fun g => decide ((g.key, g.id) = ((vs.getD k dV).a.key, grt (avs vs) (vs.getD k dV).a.key))) = some (gs.getD i dV).a := fun h => by
            rw [fetchL, List.drop_zero] at h ⊢
            rcases hfs with ⟨h1, _⟩ | ⟨_, i, g, h2, h3, h4⟩
            · rw [h1] at h; cases h
            · have hi : i < gs.length := by have := (List.getElem?_eq_some_iff.1 h3).1; simpa [avs] using this
              refine ⟨i, hi, by rw [h2]; simp, ?_⟩
              rw [avs_get hi] at h3
              cases h3
              rw [← hgl]; exact h4
          refine pk_val rfl rfl rfl (val_move rfl rfl) ?_
          refine pk_val rfl rfl rfl (val_not rfl rfl) ?_
          refine pk_nil ?_
          refine thru_on ?_
          refine pk_ifn rfl (fun h3 => ?_) (fun h3 => ?_)
          · skip
            refine pk_seq ?_
            refine pk_region ?_
            refine pk_val rfl rfl rfl (val_assign rfl rfl) ?_
            refine pk_val rfl rfl rfl (val_assign rfl rfl) ?_
            refine pk_nil ?_
            refine thru_on ?_
            refine pk_ret ?_
            refine thru_ret ?_
            refine thru_ret ?_
            refine in_ret ?_
            refine thru_ret ?_
            refine thru_ret ?_
            refine in_ret ?_
            refine thru_ret ?_
            refine retM 4 rfl rfl (res2 rfl rfl rfl) fun w s => ⟨(none, 0, []), ?_, ?_, s.to fun _ h => ?_⟩
            · have e : mapO (mendF (avs vs) (avs gs)) (avs vs) = none := mapO_none (List.mem_of_getElem? (avs_get hk)) (by rw [mendF, if_pos h2]; exact hnone h3)
              simp only [mendL, hf, if_true, e]; rfl
            · have e : mapO (mendF (avs vs) (avs gs)) (avs vs) = none := mapO_none (List.mem_of_getElem? (avs_get hk)) (by rw [mendF, if_pos h2]; exact hnone h3)
              simp [mendE, hf, e]
            · exact Sats.nilrow (Sats.cat_nil (Sats.app (A := [_, _, _, _, _, _]) h))
          · skip
            refine pk_skip ?_
            refine thru_on ?_
            obtain ⟨i, hi, hgi, hgf⟩ := hsome h3
            refine Pk.tells (hG.cons.cons.cons.cons.cons.cons.cons.rows.some_of (by rw [flat_length Ver.cells_len]; omega)) fun hB => ?_
            have himem := getD_mem dV hi
            refine pk_region ?_
            refine pk_val rfl rfl rfl (val_move rfl rfl) ?_
            refine pk_val rfl rfl rfl (val_move rfl rfl) ?_
            refine pk_val rfl rfl rfl (val_indexAddr rfl Try.underlying23 4 (by kernel_rfl) rfl rfl i hgi hi (Ent.pure hB)) ?_
            refine pk_val rfl rfl rfl (val_loads (vs := (gs.getD i dV).cells) rfl Try.underlying36 rfl (by kernel_rfl) rfl (Ent.pure hB) (hG.cons.cons.cons.cons.cons.cons.cons.rows.rds (flat_rds Ver.cells_len dV hi))) ?_
            refine pk_eff0 (eff_storeW 0 rfl rfl rfl rfl rfl (by kernel_rfl) rfl rfl rfl) rfl rfl (fun _ _ => ?_)
            refine pk_nil ?_
            refine thru_on ?_
            refine pk_fin (gs.getD i dV) ?_ ?_ ?_
            · (try dsimp only) <;> exact ⟨by rw [mendF, if_pos h2]; exact hgf, hG.keys _ himem, hG.klen _ himem⟩
            · exact ⟨(Sub.cons rfl (by first | rfl | (congr 1; omega) | simp) (Sub.cons rfl (by first | rfl | (congr 1; omega) | simp) (Sub.cons rfl (by first | rfl | (congr 1; omega) | simp) (Sub.cons rfl (by first | rfl | (congr 1; omega) | simp) (Sub.cons rfl (by first | rfl | (congr 1; omega) | simp) (Sub.cons rfl (by first | rfl | (congr 1; omega) | simp) (Sub.cons rfl (by first | rfl | (congr 1; omega) | simp) (Sub.cons rfl (by first | rfl | (congr 1; omega) | simp) (Sub.cons rfl (by first | rfl | (congr 1; omega) | simp) (Sub.nil _)))))))))), rfl⟩
            · exact (fun _ h => h)
        · skip
          refine pk_skip ?_
          refine thru_on ?_
          rw [hgl] at h2
          refine pk_fin (vs.getD k dV) ?_ ?_ ?_
          · (try dsimp only) <;> exact ⟨by rw [mendF, if_neg h2], hV.keys _ hmem, hV.klen _ hmem⟩
          · exact ⟨(Sub.cons rfl (by first | rfl | (congr 1; omega) | simp) (Sub.cons rfl (by first | rfl | (congr 1; omega) | simp) (Sub.cons rfl (by first | rfl | (congr 1; omega) | simp) (Sub.cons rfl (by first | rfl | (congr 1; omega) | simp) (Sub.cons rfl (by first | rfl | (congr 1; omega) | simp) (Sub.cons rfl (by first | rfl | (congr 1; omega) | simp) (Sub.cons rfl (by first | rfl | (congr 1; omega) | simp) (Sub.cons rfl (by first | rfl | (congr 1; omega) | simp) (Sub.cons rfl (by first | rfl | (congr 1; omega) | simp) (Sub.nil _)))))))))), rfl⟩
          · exact (fun _ h => h)
      rintro u ⟨hu, hru, hlu⟩
      refine pk_seq ?_
      refine pk_region ?_
      refine pk_val rfl rfl rfl (val_fieldAddr rfl Try.underlying36 3 1 (by kernel_rfl) (by decide) rfl (Ent.pure rfl)) ?_
      refine pk_val rfl rfl rfl (val_load rfl Try.underlying34 rfl rfl ((Ent.own 0 rfl).rd rfl)) ?_
      refine pk_eff (eff_callx rfl ⟨_, Try.func33, by kernel_rfl, rfl⟩ rfl (fun E w s => slices_Clone_string_c s hru.cons.cons.cons.cons.cons.cons.cons hlu)) rfl rfl rfl (fun q63 _ => ?_)
      refine pk_val rfl rfl rfl (val_fieldAddr rfl Try.underlying36 3 1 (by kernel_rfl) (by decide) rfl (Ent.pure rfl)) ?_
      refine pk_eff0 (eff_store 1 rfl rfl rfl rfl rfl (by kernel_rfl) rfl (by first | (simp; done) | exact Nat.le_refl _ | exact Nat.le_of_ble_eq_true rfl) (by first | (simp; done) | exact Nat.le_refl _ | exact Nat.le_of_ble_eq_true rfl)) rfl rfl (fun _ _ => ?_)
      refine pk_nil ?_
      refine thru_on ?_
      refine pk_region ?_
      refine pk_val rfl rfl rfl (val_move rfl rfl) ?_
      refine pk_val rfl rfl rfl (val_loads (vs := (⟨u.a, q63.1, q63.2⟩ : Ver).cells) rfl Try.underlying36 rfl (by kernel_rfl) rfl (Ent.pure rfl) ((Ent.own 1 rfl).rds (fun j v h => by rw [Nat.zero_add j]; exact h))) ?_
      refine pk_eff (eff_buildSlice (len := 1) (sz := 4) (z := #[.string ⟨#[]⟩, .int .u64 0, .string ⟨#[]⟩, .slice none 0 0]) rfl Try.underlying23 (by kernel_rfl) rfl rfl rfl (by decide) (by decide) rfl rfl) rfl rfl rfl (fun b67 _ => ?_)
      refine pk_eff (eff_append1 (sz := 4) (bytes := 64) (z := .agg #[.string ⟨#[]⟩, .int .u64 0, .string ⟨#[]⟩, .slice none 0 0]) 3 rfl Try.underlying23 (by kernel_rfl) rfl (by decide) (by decide) rfl rfl rfl (Ent.own 0 rfl) (by first | rfl | (simp; done) | exact flat_length (s := 4) (fun _ => rfl) _) (by first | rfl | (simp; done)) rfl (by omega)) rfl rfl rfl (fun q68 _ => ?_)
      refine pk_val rfl rfl rfl (val_assign rfl rfl) ?_
      refine pk_nil ?_
      refine in_on ?_
      refine thru_on ?_
      refine pk_region ?_
      refine pk_val rfl rfl rfl (val_add rfl rfl rfl (by omega)) ?_
      refine pk_val rfl rfl rfl (val_move rfl rfl) ?_
      refine pk_nil ?_
      refine thru_on ?_
      refine pk_next (x := ⟨k, q, d', outs⟩) ((k + 1, q68.1, q68.2, outs ++ [⟨u.a, q63.1, q63.2⟩])) ?_ ?_ ?_ ?_
      · (try dsimp only) <;> exact ⟨hk, by (try dsimp only); rw [avs_take hk, mapO_snoc, hI, hu]; simp [avs]⟩
      · (try dsimp only); exact (by omega)
      · exact ⟨(Sub.cons rfl (by first | rfl | (congr 1; omega) | simp) (Sub.cons rfl (by first | rfl | (congr 1; omega) | simp) (Sub.cons rfl (by first | rfl | (congr 1; omega) | simp) (Sub.cons rfl (by simp) (Sub.cons rfl (by first | rfl | (congr 1; omega) | simp) (Sub.cons rfl (by first | rfl | (congr 1; omega) | simp) (Sub.cons rfl (by first | rfl | (congr 1; omega) | simp) (Sub.cons rfl (by first | rfl | (congr 1; omega) | simp) (Sub.nil _))))))))), rfl⟩
      · exact (fun _ h => by
              (try dsimp only)
              rw [List.flatMap_append, List.length_append]
              exact Sats.swap (Sats.cat_snoc (f := keysCh) (y := ⟨u.a, q63.1, q63.2⟩) (Sats.swap (Sats.pull 2 rfl (Sats.keep [false, true, false, true, true, true, true, true, true] h)))))
    · skip
      refine pk_exit ?_
      refine thru ?_
      refine thru ?_
      refine pk_here ?_
      refine thru_on ?_
      refine pk_seq ?_
      refine pk_region ?_
      refine pk_val rfl rfl rfl (val_move rfl rfl) ?_
      refine pk_val rfl rfl rfl (val_assign rfl rfl) ?_
      refine pk_val rfl rfl rfl (val_assign rfl rfl) ?_
      refine pk_nil ?_
      refine thru_on ?_
      refine pk_ret ?_
      refine retM 3 rfl rfl (res2 rfl rfl rfl) fun w s => ⟨(q, d', outs), ?_, ?_, s.to fun _ h => ?_⟩
      · have e : mapO (mendF (avs vs) (avs gs)) (avs vs) = some (avs outs) := by rw [List.take_of_length_le (by omega)] at hI; exact hI
        simp [mendL, hf, e]
      · have e : mapO (mendF (avs vs) (avs gs)) (avs vs) = some (avs outs) := by rw [List.take_of_length_le (by omega)] at hI; exact hI
        simp [mendE, hf, e]
      · exact Sats.keep [true, true, false, false, false] h
end Go.Proofs.Ytdpckendkklfdaa
