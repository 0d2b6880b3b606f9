/- The walks of slices.Values, AppendSeq, Collect, Sorted at string; keys.Rising, keys.Valid. -/
import Derived.Test.YtdpckendkklfdaaGreatSoA
import Derived.Test.YtdpckendkklfdaaGreatEngI
set_option linter.unusedVariables false
set_option linter.unusedSimpArgs false
set_option maxRecDepth 100000
namespace Go.Proofs.YtdpckendkklfdaaGreat
open Go.RowKit Go.Proofs.Eng
open Go.Sort
theorem encStr_map (l : List ByteArray) : (l.map (fun b => b.data.toList)).map encStr = l.map .string := by
  rw [List.map_map]; exact List.map_congr_left fun b _ => by simp [encStr]
theorem srt_str (l : List ByteArray) : (l.map (fun b => b.data.toList)).mergeSort (fun x y => decide (x ≤ y)) = (srtL slt l).map (fun b => b.data.toList) := by
  rw [srtL]
  refine (List.map_mergeSort fun a _ b _ => ?_).symm
  cases h : slt b a with
  | true =>
    have := (slt_iff b a).1 h
    simp [List.not_le.2 this]
  | false =>
    have : ¬ b.data.toList < a.data.toList := fun e => by rw [(slt_iff b a).2 e] at h; cases h
    simp [List.not_lt.1 this]
theorem Sort_string_c {q : Option Addr} {n c : Nat} {E w : World} {L : List Ch} {l : List ByteArray} (s : Sat E w (own q n c 9 1 (l.map .string) :: L)) (hn : l.length = n) (h1 : 1 ≤ n) (hn2 : n ≤ 1099511627776) :
    Calls Tryz.prog 188 #[.slice q n c] w (Gives E (.tuple #[]) (own q n c 9 1 ((srtL slt l).map .string) :: L)) := by
  obtain ⟨h1', hle, hown, hup⟩ := Sats.upd (i := 0) rfl s.heap
  obtain ⟨ha, hb, hcm, hd⟩ := hown
  rcases hd with ⟨_, _, hx⟩ | ⟨b, rest, rfl, _, _⟩
  · have : l.length = 0 := by have := congrArg List.length hx; simpa using this
    omega
  have h2 := calls_sort (P := Tryz.prog) (g := 188) (args := #[.slice (some ⟨b, 0, none⟩) n c]) (l := l.map (fun b => b.data.toList)) (l' := (srtL slt l).map (fun b => b.data.toList)) (enc := encStr) (E := E) (w := w) (L := L) (b := b) (n := n) (c := c) (t := 9) (by rw [encStr_map]; exact s) (by simp [srtL_len])
    (fun hH hbl => by
      have h3 := Go.Proofs.Tryz.slices_Sort_string b 0 c (l.map (fun b => b.data.toList)) w hH hbl (by simp; omega)
      rw [srt_str, List.length_map, hn] at h3
      exact h3)
  rw [encStr_map] at h2
  exact h2
theorem Values_string_c {E w : World} {L : List Ch} {A : Option Addr} {n c : Nat} (s : Sat E w L) :
    Calls Tryz.prog 163 #[.slice A n c] w (GivesX E (fun b : Nat => .func (.func 218) #[] #[ptr (some ⟨b, 0, none⟩) 0]) (fun b => own (some ⟨b, 0, none⟩) 1 1 24 1 [.slice A n c] :: L) (fun _ => True)) := by
  refine enter (vs := [_]) Tryz.func163 rfl Tryz.ntmps163 rfl s ?_
  refine pk_seq ?_
  refine pk_region ?_
  refine pk_eff (eff_box rfl rfl rfl) rfl rfl rfl (fun b1 _ => ?_)
  refine pk_val rfl rfl rfl (val_assign rfl rfl) ?_
  refine pk_nil ?_
  refine thru_on ?_
  refine pk_seq ?_
  refine pk_region ?_
  refine pk_val rfl rfl rfl (val_func rfl rfl rfl) ?_
  refine pk_val rfl rfl rfl (val_assign rfl rfl) ?_
  refine pk_nil ?_
  refine thru_on ?_
  refine pk_ret ?_
  refine ret1 rfl rfl fun w s => ⟨b1, trivial, rfl, s⟩
theorem Values_string_it_c {E w : World} {l n' : Nat} {rc : Loop} {m0 : List (Nat × Value)} {ps : Array Nat} {L : Nat → List Ch} {A : Option Addr} {c : Nat} {vs : List ByteArray} {B : Addr} (s : Sat E w (lpc l rc :: L 0)) (hst : rc.state = .ready) (hpe : rc.pending = none) (hps : rc.params = ps) (hfr : Fr n' { tmps := rc.tmps, defers := [] } m0)
    (hsz : ps.size = 1) (hlt : (ps.toList.all fun t => Nat.blt t n') = true) (hV : ∀ k, Ent (L k) (RdL A (vs.map .string))) (hB : ∀ k, Ent (L k) (RdL (some B) [.slice A vs.length c])) (hlen : vs.length ≤ 1099511627776)
    (hr : ∀ k, k < vs.length → Round Tryz.prog rc l E n' (putL ps.toList [.string (vs.getD k emp)] m0) (L k) (fun _ : Unit => L (k + 1)) (fun _ => True)) :
    Calls Tryz.prog 218 #[.func (.yield l) #[] #[], ptr (some B) 0] w (fun e w' => ∃ x : Unit, True ∧ (∃ v, e = .returned v) ∧ Sat E w' (lpc l rc :: L vs.length)) := by
  refine enter (vs := [_, _]) Tryz.func218 rfl Tryz.ntmps218 rfl s ?_
  refine pk_seq ?_
  refine pk_region ?_
  refine pk_val rfl rfl rfl (val_load rfl Tryz.underlying24 rfl rfl ((hB _).cons.rd rfl)) ?_
  refine pk_val rfl rfl rfl (val_len_slice rfl Tryz.underlying24 rfl) ?_
  refine pk_val rfl rfl rfl (val_move rfl rfl) ?_
  refine pk_nil ?_
  refine thru_on ?_
  refine pk_block ?_
  refine pk_loop (α := Nat) (0) (fun k => [(0, .func (.yield l) #[] #[]), (1, ptr (some B) 0), (5, .slice A vs.length c), (6, .int .i64 (vs.length : Nat)), (7, .int .i64 (k : Nat))]) (fun k => (lpc l rc) :: (L k)) (fun k => k ≤ vs.length) (fun k => vs.length - k) ?_ ?_ ?_ ?_
  · (try dsimp only) <;> exact Nat.zero_le _
  · exact ⟨(Sub.cons rfl (by first | rfl | (congr 1; omega) | simp) (Sub.cons rfl (by first | rfl | (congr 1; omega) | simp) (Sub.cons rfl (by first | rfl | (congr 1; omega) | simp) (Sub.cons rfl (by first | rfl | (congr 1; omega) | simp) (Sub.cons rfl (by first | rfl | (congr 1; omega) | simp) (Sub.nil _)))))), rfl⟩
  · exact (fun _ h => h)
  rintro k hk0
  refine pk_seq ?_
  refine pk_region ?_
  refine pk_val rfl rfl rfl (val_lss rfl rfl rfl) ?_
  refine pk_nil ?_
  refine thru_on ?_
  refine pk_seq ?_
  refine pk_if rfl (fun h => ?_) (fun h => ?_)
  · skip
    refine pk_skip ?_
    refine thru_on ?_
    have hj : k < vs.length := by omega
    refine Pk.tells ((hV _).cons.some_of (by rw [List.length_map]; omega)) fun hA => ?_
    refine pk_seq ?_
    refine pk_block ?_
    refine pk_seq ?_
    refine pk_region ?_
    refine pk_val rfl rfl rfl (val_indexAddr rfl Tryz.underlying24 1 (by kernel_rfl) rfl rfl k rfl hj (Ent.pure hA)) ?_
    refine pk_val rfl rfl rfl (val_load rfl Tryz.underlying9 rfl rfl ((hV _).cons.rd (get_map emp hj))) ?_
    refine pk_val rfl rfl rfl (val_assign rfl rfl) ?_
    refine pk_nil ?_
    refine thru_on ?_
    refine pk_seq ?_
    refine pk_region_in ?_
    refine pkI_val rfl rfl rfl rfl (val_move rfl rfl) ?_
    refine pkI_val rfl rfl rfl rfl (val_move rfl rfl) ?_
    refine pkI_yield (vs := [.string (vs.getD k emp)]) (m0 := m0) 0 rfl rfl rfl rfl hst hpe hfr (by rw [hps, hsz]; rfl) (by rw [hps]; exact hlt) (by rw [hps]; exact hr k hj) rfl rfl rfl (fun _ _ => ?_)
    refine pkI_val rfl rfl rfl rfl (val_not rfl rfl) ?_
    refine pkI_nil ?_
    refine thru_on ?_
    refine pk_cond_f rfl ?_
    refine pk_skip ?_
    refine in_on ?_
    refine thru_on ?_
    refine pk_region ?_
    refine pk_val rfl rfl rfl (val_add rfl rfl rfl (by omega)) ?_
    refine pk_val rfl rfl rfl (val_move rfl rfl) ?_
    refine pk_nil ?_
    refine thru_on ?_
    refine pk_next (x := k) (k + 1) ?_ ?_ ?_ ?_
    · (try dsimp only) <;> exact (by omega)
    · (try dsimp only); exact (by omega)
    · exact ⟨(Sub.cons rfl (by first | rfl | (congr 1; omega) | simp) (Sub.cons rfl (by first | rfl | (congr 1; omega) | simp) (Sub.cons rfl (by first | rfl | (congr 1; omega) | simp) (Sub.cons rfl (by first | rfl | (congr 1; omega) | simp) (Sub.cons rfl (by first | rfl | (congr 1; omega) | simp) (Sub.nil _)))))), rfl⟩
    · exact (fun _ h => h)
  · skip
    refine pk_exit ?_
    refine thru ?_
    refine thru ?_
    refine pk_here ?_
    have hk : k = vs.length := by omega
    subst hk
    refine end0 rfl fun w s => ⟨(), trivial, ⟨_, rfl⟩, s⟩
theorem take_str {vs : List ByteArray} {k : Nat} (h : k < vs.length) : (vs.take (k + 1)).map Value.string = (vs.take k).map Value.string ++ [.string (vs.getD k emp)] := by
  have e : vs.getD k emp = vs[k] := by simp [h]
  rw [e, List.take_succ_eq_append_getElem h, List.map_append]; rfl
theorem AppendSeq_string_c {E w : World} {L : List Ch} {A : Option Addr} {c B : Nat} {vs : List ByteArray} (s : Sat E w L) (hV : Ent L (RdL A (vs.map .string))) (hB : Ent L (RdL (some ⟨B, 0, none⟩) [.slice A vs.length c])) (hlen : vs.length ≤ 1099511627776) :
    Calls Tryz.prog 239 #[.slice none 0 0, .func (.func 218) #[] #[ptr (some ⟨B, 0, none⟩) 0]] w (GivesX E (fun q : Option Addr × Nat => .slice q.1 vs.length q.2) (fun q => own q.1 vs.length q.2 9 1 (vs.map .string) :: L) (fun _ => True)) := by
  refine enterM (vs := [_, _]) Tryz.func239 rfl Tryz.ntmps239 rfl s ?_
  refine pk_seq ?_
  refine pk_region ?_
  refine pk_eff (eff_box rfl rfl rfl) rfl rfl rfl (fun b2 _ => ?_)
  refine pk_val rfl rfl rfl (val_assign rfl rfl) ?_
  refine pk_nil ?_
  refine thru_on ?_
  refine pk_seq ?_
  refine pk_seq ?_
  refine pk_region ?_
  refine Pk.heap (fun _ h => Sats.exRow (t := 9) (s := 1) (n := 0) (xs := []) (none, 0) (Sats.swap (Sats.nilrow h))) ?_
  refine pk_val rfl rfl rfl (val_move rfl rfl) ?_
  refine pk_nil ?_
  refine thru_on ?_
  refine pk_block ?_
  refine pk_rangeFunc (α := Unit) (M := fun _ => (exRow b2 24 9 1 vs.length ((vs.take vs.length).map Value.string)) :: L) (p := fun _ => True) rfl ⟨_, Tryz.func218, by kernel_rfl, rfl⟩ rfl (fun E w l D rc h1 h2 h3 h4 h5 hfr s => ?_) (fun _ D _ => ?_)
  · skip
    refine Values_string_it_c (A := A) (c := c) (vs := vs) (B := ⟨B, 0, none⟩) (L := fun k => dfc D :: exRow b2 24 9 1 k ((vs.take k).map Value.string) :: L) s h1 h2 h3 hfr rfl rfl (fun k => hV.cons.cons) (fun k => hB.cons.cons) hlen (fun k hk => ?_)
    refine round_of h4 h5 ?_
    refine Pk.pull 2 rfl ?_
    refine Pk.exRow fun q => ?_
    refine pkI_region ?_
    refine pkI_val rfl rfl rfl rfl (val_assign rfl rfl) ?_
    refine pkI_nil ?_
    refine thru_on ?_
    refine Pk.pull 2 rfl ?_
    refine round_body ?_
    refine pkI_block ?_
    refine pkI_region ?_
    refine pkI_val rfl rfl rfl rfl (val_load (v := .slice q.1 k q.2) rfl Tryz.underlying24 rfl rfl ((Ent.own 1 rfl).rd rfl)) ?_
    refine pkI_val rfl rfl rfl rfl (val_move rfl rfl) ?_
    refine pkI_eff (eff_buildSlice (len := 1) (sz := 1) (z := #[.string ⟨#[]⟩]) rfl Tryz.underlying24 (by kernel_rfl) rfl rfl rfl (by decide) (by decide) rfl rfl) rfl rfl rfl rfl (fun b10 _ => ?_)
    refine pkI_eff (eff_append1 (sz := 1) (bytes := 16) (z := .string ⟨#[]⟩) 3 rfl Tryz.underlying24 (by kernel_rfl) rfl (by decide) (by decide) rfl rfl rfl (Ent.own 0 rfl) (by rw [List.length_map, List.length_take]; omega) rfl rfl (by omega)) rfl rfl rfl rfl (fun q11 _ => ?_)
    refine pkI_eff0 (eff_storeW 2 rfl rfl rfl rfl rfl (by kernel_rfl) rfl rfl rfl) rfl rfl rfl (fun _ _ => ?_)
    refine pkI_nil ?_
    refine in_on ?_
    exact round_end () trivial (fun _ h => by (try dsimp only); rw [take_str hk]; exact Sats.under (fun _ => Sats.under (fun _ h => Sats.exRow q11 h)) ((Sats.pick 5 [1, 4, 2, 3] rfl h :)))
  refine in_on ?_
  refine thru_on ?_
  refine Pk.pull 1 rfl ?_
  refine Pk.exRow fun q => ?_
  refine pk_seq ?_
  refine pk_region ?_
  refine pk_val rfl rfl rfl (val_load (v := .slice q.1 vs.length q.2) rfl Tryz.underlying24 rfl rfl ((Ent.own 0 rfl).rd rfl)) ?_
  refine pk_val rfl rfl rfl (val_assign rfl rfl) ?_
  refine pk_nil ?_
  refine thru_on ?_
  refine pk_ret ?_
  refine retM 2 rfl rfl (res1 rfl rfl) fun w s => ⟨q, trivial, rfl, s.to fun _ h => ?_⟩
  rw [List.take_length] at h
  exact Sats.keep [false, true] h
theorem Collect_string_c {E w : World} {L : List Ch} {A : Option Addr} {c B : Nat} {vs : List ByteArray} (s : Sat E w L) (hV : Ent L (RdL A (vs.map .string))) (hB : Ent L (RdL (some ⟨B, 0, none⟩) [.slice A vs.length c])) (hlen : vs.length ≤ 1099511627776) :
    Calls Tryz.prog 187 #[.func (.func 218) #[] #[ptr (some ⟨B, 0, none⟩) 0]] w (GivesX E (fun q : Option Addr × Nat => .slice q.1 vs.length q.2) (fun q => own q.1 vs.length q.2 9 1 (vs.map .string) :: L) (fun _ => True)) := by
  refine enter (vs := [_]) Tryz.func187 rfl Tryz.ntmps187 rfl s ?_
  refine pk_seq ?_
  refine pk_region ?_
  refine pk_val rfl rfl rfl (val_assign rfl rfl) ?_
  refine pk_nil ?_
  refine thru_on ?_
  refine pk_seq ?_
  refine pk_region ?_
  refine pk_val rfl rfl rfl (val_move rfl rfl) ?_
  refine pk_eff (eff_callx rfl ⟨_, Tryz.func239, by kernel_rfl, rfl⟩ rfl (fun E w s => AppendSeq_string_c s hV hB hlen)) rfl rfl rfl (fun q4 _ => ?_)
  refine pk_val rfl rfl rfl (val_assign rfl rfl) ?_
  refine pk_nil ?_
  refine thru_on ?_
  refine pk_ret ?_
  refine ret1 rfl rfl fun w s => ⟨q4, trivial, rfl, s⟩
theorem Sorted_string_c {E w : World} {L : List Ch} {A : Option Addr} {c B : Nat} {vs : List ByteArray} (s : Sat E w L) (hV : Ent L (RdL A (vs.map .string))) (hB : Ent L (RdL (some ⟨B, 0, none⟩) [.slice A vs.length c])) (hlen : vs.length ≤ 1099511627776) (h1 : 1 ≤ vs.length) :
    Calls Tryz.prog 114 #[.func (.func 218) #[] #[ptr (some ⟨B, 0, none⟩) 0]] w (GivesX E (fun q : Option Addr × Nat => .slice q.1 vs.length q.2) (fun q => own q.1 vs.length q.2 9 1 ((srtL slt vs).map .string) :: L) (fun _ => True)) := by
  refine enter (vs := [_]) Tryz.func114 rfl Tryz.ntmps114 rfl s ?_
  refine pk_seq ?_
  refine pk_region ?_
  refine pk_val rfl rfl rfl (val_assign rfl rfl) ?_
  refine pk_nil ?_
  refine thru_on ?_
  refine pk_seq ?_
  refine pk_region ?_
  refine pk_val rfl rfl rfl (val_move rfl rfl) ?_
  refine pk_eff (eff_callx rfl ⟨_, Tryz.func187, by kernel_rfl, rfl⟩ rfl (fun E w s => Collect_string_c s hV hB hlen)) rfl rfl rfl (fun q5 _ => ?_)
  refine pk_val rfl rfl rfl (val_assign rfl rfl) ?_
  refine pk_nil ?_
  refine thru_on ?_
  refine pk_seq ?_
  refine pk_region ?_
  refine pk_val rfl rfl rfl (val_move rfl rfl) ?_
  refine pk_eff (eff_call1 rfl ⟨_, Tryz.func188, by kernel_rfl, rfl⟩ rfl (fun E w s => Sort_string_c s rfl h1 hlen)) rfl rfl rfl (fun _ _ => ?_)
  refine pk_nil ?_
  refine thru_on ?_
  refine pk_seq ?_
  refine pk_region ?_
  refine pk_val rfl rfl rfl (val_move rfl rfl) ?_
  refine pk_val rfl rfl rfl (val_assign rfl rfl) ?_
  refine pk_nil ?_
  refine thru_on ?_
  refine pk_ret ?_
  refine ret1 rfl rfl fun w s => ⟨q5, trivial, rfl, s⟩
theorem keys_Rising_c {E w : World} {L : List Ch} {A : Option Addr} {c n : Nat} {l : List ByteArray} (s : Sat E w L) (hr : Ent L (RdL A (l.map .string))) (hn : l.length = n) (hl : n ≤ 1099511627776) :
    Calls Tryz.prog 162 #[.slice A n c] w (Gives E (.bool (riseB l)) L) := by
  subst hn
  refine enter (vs := [_]) Tryz.func162 rfl Tryz.ntmps162 rfl s ?_
  refine pk_seq ?_
  refine pk_region ?_
  refine pk_val rfl rfl rfl (val_assign rfl rfl) ?_
  refine pk_nil ?_
  refine thru_on ?_
  refine pk_seq ?_
  refine pk_seq ?_
  refine pk_region ?_
  refine pk_val rfl rfl rfl (val_assign rfl rfl) ?_
  refine pk_nil ?_
  refine thru_on ?_
  refine pk_block ?_
  refine pk_loop (α := Nat) (1) (fun k => [(3, .int .i64 k), (0, .slice A l.length c)]) (fun k => L) (fun k => 1 ≤ k ∧ Rise l k) (fun k => l.length - k) ?_ ?_ ?_ ?_
  · (try dsimp only) <;> exact ⟨Nat.le_refl _, fun j h => by omega⟩
  · exact ⟨(Sub.cons rfl (by first | rfl | (congr 1; omega) | simp) (Sub.cons rfl (by first | rfl | (congr 1; omega) | simp) (Sub.nil _))), rfl⟩
  · exact (fun _ h => h)
  rintro k ⟨hk1, hk⟩
  refine pk_seq ?_
  refine pk_seq ?_
  refine pk_region ?_
  refine pk_val rfl rfl rfl (val_move rfl rfl) ?_
  refine pk_val rfl rfl rfl (val_move rfl rfl) ?_
  refine pk_val rfl rfl rfl (val_len_slice rfl Tryz.underlying24 rfl) ?_
  refine pk_val rfl rfl rfl (val_lss rfl rfl rfl) ?_
  refine pk_nil ?_
  refine thru_on ?_
  refine pk_if rfl (fun h => ?_) (fun h => ?_)
  · skip
    refine pk_skip ?_
    refine thru_on ?_
    refine Pk.tells (hr.some_of (by simp; omega)) fun hA => ?_
    refine pk_seq ?_
    refine pk_block ?_
    refine pk_seq ?_
    refine pk_drawk (.val 0 (.val 1 (.val 2 (.val 3 (.val 4 (.val 5 (.val 6 (.val 7 (.val 8 (.val 9 .nil)))))))))) 1010 [] rfl (by kernel_rfl) (fun _ _ _ _ _ h => h) ?_
    refine ord_val rfl rfl rfl rfl (fun _ h => h) (val_move rfl rfl) ?_
    refine ord_val rfl rfl rfl rfl (fun _ h => h) (val_move rfl rfl) ?_
    refine ord_val rfl rfl rfl rfl (fun _ h => h) (val_sub rfl rfl rfl (by omega)) ?_
    refine ord_val rfl rfl rfl rfl (fun _ h => h) (val_indexAddr rfl Tryz.underlying24 1 (by kernel_rfl) rfl rfl (k - 1) (by omega) (by omega) (Ent.pure hA)) ?_
    refine ord_val rfl rfl rfl rfl (fun _ h => h) (val_load rfl Tryz.underlying9 rfl rfl (hr.rd (get_map emp (by omega)))) ?_
    refine ord_val rfl rfl rfl rfl (fun _ h => h) (val_move rfl rfl) ?_
    refine ord_val rfl rfl rfl rfl (fun _ h => h) (val_move rfl rfl) ?_
    refine ord_val rfl rfl rfl rfl (fun _ h => h) (val_indexAddr rfl Tryz.underlying24 1 (by kernel_rfl) rfl rfl k rfl (by omega) (Ent.pure hA)) ?_
    refine ord_val rfl rfl rfl rfl (fun _ h => h) (val_load rfl Tryz.underlying9 rfl rfl (hr.rd (get_map emp (by omega)))) ?_
    refine ord_val rfl rfl rfl rfl (fun _ h => h) (val_str_geq rfl rfl rfl) ?_
    refine ord_nil ?_
    refine thru_on ?_
    refine pk_ifn rfl (fun h2 => ?_) (fun h2 => ?_)
    · skip
      refine pk_seq ?_
      refine pk_region ?_
      refine pk_val rfl rfl rfl (val_assign rfl rfl) ?_
      refine pk_nil ?_
      refine thru_on ?_
      refine pk_ret ?_
      refine in_ret ?_
      refine thru_ret ?_
      refine thru_ret ?_
      refine in_ret ?_
      refine thru_ret ?_
      refine ret1 rfl rfl fun w s => ⟨?_, s⟩
      have h3 : riseB l = false := by
              cases hb : riseB l with
              | false => rfl
              | true =>
                have := (riseB_iff l).1 hb (k - 1) (by omega)
                rw [show k - 1 + 1 = k by omega] at this
                rw [h2] at this; cases this
      rw [h3]
    · skip
      refine pk_skip ?_
      refine in_on ?_
      refine thru_on ?_
      have hn : Rise l (k + 1) := fun j hj => by
              by_cases e : j + 1 = k
              · have h3 : slt (l.getD (k - 1) emp) (l.getD k emp) = true := by simpa using h2
                rw [← e, Nat.add_sub_cancel] at h3
                exact h3
              · exact hk j (by omega)
      refine pk_region ?_
      refine pk_val rfl rfl rfl (val_move rfl rfl) ?_
      refine pk_val rfl rfl rfl (val_add rfl rfl rfl (by omega)) ?_
      refine pk_val rfl rfl rfl (val_assign rfl rfl) ?_
      refine pk_nil ?_
      refine thru_on ?_
      refine pk_next (x := k) (k + 1) ?_ ?_ ?_ ?_
      · (try dsimp only) <;> exact ⟨by omega, hn⟩
      · (try dsimp only); exact (by omega)
      · exact ⟨(Sub.cons rfl (by first | rfl | (congr 1; omega) | simp) (Sub.cons rfl (by first | rfl | (congr 1; omega) | simp) (Sub.nil _))), rfl⟩
      · exact (fun _ h => h)
  · skip
    refine pk_exit ?_
    refine thru ?_
    refine thru ?_
    refine pk_here ?_
    refine thru_on ?_
    refine pk_seq ?_
    refine pk_region ?_
    refine pk_val rfl rfl rfl (val_assign rfl rfl) ?_
    refine pk_nil ?_
    refine thru_on ?_
    refine pk_ret ?_
    have hR : riseB l = true := (riseB_iff l).2 fun j hj => hk j (by omega)
    refine ret1 rfl rfl fun w s => ⟨?_, s⟩
    rw [hR]
/-- the keys of a request -/
def validK (l : List ByteArray) : Bool := decide (1 ≤ l.length) && decide (l.length ≤ 1024) && l.all (fun s => decide (s.size ≤ 65535)) && riseB (srtL slt l)
theorem keys_Valid_c {E w : World} {L : List Ch} {A : Option Addr} {c n : Nat} {l : List ByteArray} (s : Sat E w L) (hr : Ent L (RdL A (l.map .string))) (hn : l.length = n) (hl : n ≤ 1099511627776) :
    Calls Tryz.prog 85 #[.slice A n c] w (Gives E (.bool (validK l)) L) := by
  subst hn
  refine enter (vs := [_]) Tryz.func85 rfl Tryz.ntmps85 rfl s ?_
  refine pk_seq ?_
  refine pk_region ?_
  refine pk_val rfl rfl rfl (val_assign rfl rfl) ?_
  refine pk_nil ?_
  refine thru_on ?_
  refine pk_seq ?_
  refine pk_seq ?_
  refine pk_region ?_
  refine pk_val rfl rfl rfl (val_move rfl rfl) ?_
  refine pk_val rfl rfl rfl (val_len_slice rfl Tryz.underlying24 rfl) ?_
  refine pk_val rfl rfl rfl (val_lss rfl rfl rfl) ?_
  refine pk_val rfl rfl rfl (val_move rfl rfl) ?_
  by_cases h0 : l.length < 1
  · skip
    refine Pk.slot 8 (v := .bool true) rfl (by simp <;> omega) ?_
    refine pk_guard_no rfl rfl rfl rfl rfl rfl ?_
    refine pk_guard_no rfl rfl rfl rfl rfl rfl ?_
    refine pk_guard_no rfl rfl rfl rfl rfl rfl ?_
    refine pk_val rfl rfl rfl (val_pick rfl rfl rfl rfl) ?_
    refine pk_nil ?_
    refine thru_on ?_
    refine pk_cond_t rfl ?_
    refine pk_seq ?_
    refine pk_region ?_
    refine pk_val rfl rfl rfl (val_assign rfl rfl) ?_
    refine pk_nil ?_
    refine thru_on ?_
    refine pk_ret ?_
    refine thru_ret ?_
    refine ret1 rfl rfl fun w s => ⟨?_, s⟩
    have eno : validK l = false := by rw [validK, decide_eq_false (show ¬ 1 ≤ l.length by omega)]; simp
    rw [eno]
  · skip
    refine Pk.slot 8 (v := .bool false) rfl (by simp <;> omega) ?_
    refine pk_guard_yes rfl rfl rfl ?_
    refine pk_val rfl rfl rfl (val_move rfl rfl) ?_
    refine pk_guard_yes rfl rfl rfl ?_
    refine pk_val rfl rfl rfl (val_len_slice rfl Tryz.underlying24 rfl) ?_
    refine pk_guard_yes rfl rfl rfl ?_
    refine pk_val rfl rfl rfl (val_gtr rfl rfl rfl) ?_
    refine pk_val rfl rfl rfl (val_pick rfl rfl rfl rfl) ?_
    refine pk_nil ?_
    refine thru_on ?_
    refine pk_if rfl (fun h1 => ?_) (fun h1 => ?_)
    · skip
      refine pk_seq ?_
      refine pk_region ?_
      refine pk_val rfl rfl rfl (val_assign rfl rfl) ?_
      refine pk_nil ?_
      refine thru_on ?_
      refine pk_ret ?_
      refine thru_ret ?_
      refine ret1 rfl rfl fun w s => ⟨?_, s⟩
      have eno : validK l = false := by rw [validK, decide_eq_false (show ¬ l.length ≤ 1024 by omega)]; simp
      rw [eno]
    · skip
      refine pk_skip ?_
      refine thru_on ?_
      refine pk_seq ?_
      refine pk_seq ?_
      refine pk_region ?_
      refine pk_val rfl rfl rfl (val_move rfl rfl) ?_
      refine pk_val rfl rfl rfl (val_len_slice rfl Tryz.underlying24 rfl) ?_
      refine pk_val rfl rfl rfl (val_move rfl rfl) ?_
      refine pk_nil ?_
      refine thru_on ?_
      refine pk_block ?_
      refine pk_loop (α := Nat) (0) (fun k => [(0, .slice A l.length c), (13, .slice A l.length c), (14, .int .i64 (l.length : Nat)), (15, .int .i64 (k : Nat))]) (fun k => L) (fun k => k ≤ l.length ∧ ∀ j, j < k → (l.getD j emp).size ≤ 65535) (fun k => l.length - k) ?_ ?_ ?_ ?_
      · (try dsimp only) <;> exact ⟨Nat.zero_le _, fun j h => by omega⟩
      · exact ⟨(Sub.cons rfl (by first | rfl | (congr 1; omega) | simp) (Sub.cons rfl (by first | rfl | (congr 1; omega) | simp) (Sub.cons rfl (by first | rfl | (congr 1; omega) | simp) (Sub.cons rfl (by first | rfl | (congr 1; omega) | simp) (Sub.nil _))))), rfl⟩
      · exact (fun _ h => h)
      rintro k ⟨hk0, hS⟩
      refine pk_seq ?_
      refine pk_region ?_
      refine pk_val rfl rfl rfl (val_lss rfl rfl rfl) ?_
      refine pk_nil ?_
      refine thru_on ?_
      refine pk_seq ?_
      refine pk_if rfl (fun h => ?_) (fun h => ?_)
      · skip
        refine pk_skip ?_
        refine thru_on ?_
        have hk : k < l.length := by omega
        refine Pk.tells (hr.some_of (by rw [List.length_map]; omega)) fun hA => ?_
        refine pk_seq ?_
        refine pk_block ?_
        refine pk_seq ?_
        refine pk_region ?_
        refine pk_val rfl rfl rfl (val_indexAddr rfl Tryz.underlying24 1 (by kernel_rfl) rfl rfl k rfl hk (Ent.pure hA)) ?_
        refine pk_val rfl rfl rfl (val_load rfl Tryz.underlying9 rfl rfl (hr.rd (get_map emp hk))) ?_
        refine pk_val rfl rfl rfl (val_assign rfl rfl) ?_
        refine pk_nil ?_
        refine thru_on ?_
        refine pk_seq ?_
        refine pk_region ?_
        refine pk_val rfl rfl rfl (val_move rfl rfl) ?_
        refine pk_val rfl rfl rfl (val_len_string rfl Tryz.underlying9 rfl) ?_
        refine pk_val rfl rfl rfl (val_gtr rfl rfl rfl) ?_
        refine pk_nil ?_
        refine thru_on ?_
        refine pk_if rfl (fun h2 => ?_) (fun h2 => ?_)
        · skip
          refine pk_seq ?_
          refine pk_region ?_
          refine pk_val rfl rfl rfl (val_assign rfl rfl) ?_
          refine pk_nil ?_
          refine thru_on ?_
          refine pk_ret ?_
          refine in_ret ?_
          refine thru_ret ?_
          refine thru_ret ?_
          refine in_ret ?_
          refine thru_ret ?_
          refine ret1 rfl rfl fun w s => ⟨?_, s⟩
          have eno : validK l = false := by 
            have e : l.all (fun s => decide (s.size ≤ 65535)) = false := by
              rw [List.all_eq_false]
              exact ⟨_, getD_mem emp hk, fun h => absurd (of_decide_eq_true h) (by omega)⟩
            rw [validK, e]; simp
          rw [eno]
        · skip
          refine pk_skip ?_
          refine in_on ?_
          refine thru_on ?_
          refine pk_region ?_
          refine pk_val rfl rfl rfl (val_add rfl rfl rfl (by omega)) ?_
          refine pk_val rfl rfl rfl (val_move rfl rfl) ?_
          refine pk_nil ?_
          refine thru_on ?_
          refine pk_next (x := k) (k + 1) ?_ ?_ ?_ ?_
          · (try dsimp only) <;> exact ⟨hk, fun j hj => by
            by_cases e : j = k
            · subst e; omega
            · exact hS j (by omega)⟩
          · (try dsimp only); exact (by omega)
          · exact ⟨(Sub.cons rfl (by first | rfl | (congr 1; omega) | simp) (Sub.cons rfl (by first | rfl | (congr 1; omega) | simp) (Sub.cons rfl (by first | rfl | (congr 1; omega) | simp) (Sub.cons rfl (by first | rfl | (congr 1; omega) | simp) (Sub.nil _))))), rfl⟩
          · exact (fun _ h => h)
      · skip
        refine pk_exit ?_
        refine thru ?_
        refine thru ?_
        refine pk_here ?_
        refine thru_on ?_
        refine pk_seq ?_
        refine pk_region ?_
        refine pk_val rfl rfl rfl (val_move rfl rfl) ?_
        refine pk_eff (eff_callx rfl ⟨_, Tryz.func163, by kernel_rfl, rfl⟩ rfl (fun E w s => Values_string_c s)) rfl rfl rfl (fun b24 _ => ?_)
        refine pk_eff (eff_callx rfl ⟨_, Tryz.func114, by kernel_rfl, rfl⟩ rfl (fun E w s => Sorted_string_c s hr.cons (Ent.own 0 rfl) hl (by omega))) rfl rfl rfl (fun q25 _ => ?_)
        refine pk_eff (eff_call1 rfl ⟨_, Tryz.func162, by kernel_rfl, rfl⟩ rfl (fun E w s => keys_Rising_c (l := srtL slt l) s (Ent.own 0 rfl) (srtL_len _) hl)) rfl rfl rfl (fun _ _ => ?_)
        refine pk_val rfl rfl rfl (val_assign rfl rfl) ?_
        refine pk_nil ?_
        refine thru_on ?_
        refine pk_ret ?_
        have e : validK l = riseB (srtL slt l) := by
          have e1 : l.all (fun s => decide (s.size ≤ 65535)) = true := by
            rw [List.all_eq_true]
            intro x hx
            obtain ⟨j, hj, e⟩ := getD_of_mem hx
            have := hS j (by omega)
            rw [e] at this
            exact decide_eq_true this
          rw [validK, e1, decide_eq_true (show 1 ≤ l.length by omega), decide_eq_true (show l.length ≤ 1024 by omega)]; rfl
        refine ret1 rfl rfl fun w s => ⟨?_, s.to (fun _ h => Sats.keep [false, false] h)⟩
        rw [e]
end Go.Proofs.YtdpckendkklfdaaGreat
