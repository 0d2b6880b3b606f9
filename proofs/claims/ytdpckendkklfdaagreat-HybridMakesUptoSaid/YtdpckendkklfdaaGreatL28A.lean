/- The walks of law 28, first part: own, lent, alive. -/
import Derived.Test.YtdpckendkklfdaaGreatHyD
set_option linter.unusedVariables false
set_option linter.unusedSimpArgs false
set_option maxRecDepth 100000
namespace Go.Proofs.YtdpckendkklfdaaGreat
open Go.RowKit Go.Proofs.Eng
theorem l28_own_c {E w : World} {L : List Ch} {A : Option Addr} {c n : Nat} {l : List Nat} (s : Sat E w L) (hr : Ent L (RdL A (l.map bV))) (hn : l.length = n) (hl : n ≤ 1099511627776) :
    Calls Tryz.prog 32 #[.slice A n c] w (GivesX E (fun q : Option Addr × Nat => .slice q.1 n q.2) (fun q => own q.1 n q.2 5 1 (l.map bV) :: L) (fun _ => True)) := by
  refine enter (vs := [_]) Tryz.func32 rfl Tryz.ntmps32 rfl s ?_
  refine Pk.nilrow 5 1 ?_
  refine pk_seq ?_
  refine pk_region ?_
  refine pk_val rfl rfl rfl (val_assign rfl rfl) ?_
  refine pk_nil ?_
  refine thru_on ?_
  refine pk_seq ?_
  refine pk_region ?_
  refine pk_val rfl rfl rfl (val_assign rfl rfl) ?_
  refine pk_nil ?_
  refine thru_on ?_
  refine pk_seq ?_
  refine pk_region ?_
  refine pk_val rfl rfl rfl (val_move rfl rfl) ?_
  refine pk_val rfl rfl rfl (val_move rfl rfl) ?_
  refine pk_eff (eff_append1 (sz := 1) (bytes := 1) (z := .int .u8 0) 0 rfl Tryz.underlying28 (by kernel_rfl) rfl (by decide) (by decide) rfl rfl rfl hr.cons rfl (by rw [List.length_map, Nat.mul_one]; omega) (by simp [Value.oneCell']) (by omega)) rfl rfl rfl (fun q6 _ => ?_)
  refine pk_val rfl rfl rfl (val_assign rfl rfl) ?_
  refine pk_nil ?_
  refine thru_on ?_
  refine pk_ret ?_
  refine ret1 rfl rfl fun w s => ⟨q6, trivial, ?_, s.to fun _ h => ?_⟩
  · simp only [Nat.zero_add]
  · rw [Nat.zero_add, List.nil_append] at h; exact (h)
def slC1 (v : Sl) : Ch := own v.A (v.a.f.length + 1) v.c 5 1 (v.a.f.map bV ++ [.int .u8 165])
def spareC : List Value := [.string ⟨#[115, 112, 97, 114, 101]⟩, .int .u64 0, .string ⟨#[]⟩, .slice none 0 0]
theorem l28_lent_c {E w : World} {L : List Ch} {A : Option Addr} {c : Nat} {vs : List Sl} (s : Sat E w L) (hV : SlimsIn L A vs) (hl : vs.length ≤ 1099511627776) :
    Calls Tryz.prog 18 #[.slice A vs.length c] w (GivesX E (fun q : Option Addr × Nat × List Sl => .slice q.1 vs.length q.2.1) (fun q => own q.1 (q.2.2.length + 1) q.2.1 30 4 (q.2.2.flatMap Sl.cells ++ spareC) :: Eng.cat (q.2.2.map slC1) :: L) (fun q => sxs q.2.2 = sxs vs)) := by
  refine enter (vs := [_]) Tryz.func18 rfl Tryz.ntmps18 rfl s ?_
  refine Pk.nilrow 30 4 ?_
  refine Pk.heap (fun _ h => Sats.cat_nil (f := slC1) h) ?_
  refine pk_seq ?_
  refine pk_region ?_
  refine pk_val rfl rfl rfl (val_assign rfl rfl) ?_
  refine pk_nil ?_
  refine thru_on ?_
  refine pk_seq ?_
  refine pk_region ?_
  refine pk_val rfl rfl rfl (val_assign rfl rfl) ?_
  refine pk_nil ?_
  refine thru_on ?_
  refine pk_seq ?_
  refine pk_seq ?_
  refine pk_region ?_
  refine pk_val rfl rfl rfl (val_assign rfl rfl) ?_
  refine pk_nil ?_
  refine thru_on ?_
  refine pk_block ?_
  refine pk_loop (α := Nat × Option Addr × Nat × List Sl) ((0, none, 0, [])) (fun y => [(0, .slice A vs.length c), (3, .slice y.2.1 y.2.2.2.length y.2.2.1), (4, .int .i64 (y.1 : Nat))]) (fun y => (Eng.cat (y.2.2.2.map slC1)) :: (own y.2.1 y.2.2.2.length y.2.2.1 30 4 (y.2.2.2.flatMap Sl.cells)) :: L) (fun y => y.1 ≤ vs.length ∧ sxs y.2.2.2 = sxs (vs.take y.1)) (fun y => vs.length - y.1) ?_ ?_ ?_ ?_
  · (try dsimp only) <;> exact ⟨Nat.zero_le _, rfl⟩
  · exact ⟨(Sub.cons rfl (by first | rfl | (congr 1; omega) | simp) (Sub.cons rfl (by first | rfl | (congr 1; omega) | simp) (Sub.cons rfl (by first | rfl | (congr 1; omega) | simp) (Sub.nil _)))), rfl⟩
  · exact (fun _ h => h)
  rintro ⟨k, q, d1, outs⟩ ⟨hk0, hI⟩
  dsimp only at hk0 hI ⊢
  have hol : outs.length = k := by
    have := congrArg List.length hI
    simp [sxs] at this; omega
  refine pk_seq ?_
  refine pk_seq ?_
  refine pk_region ?_
  refine pk_val rfl rfl rfl (val_move rfl rfl) ?_
  refine pk_val rfl rfl rfl (val_move rfl rfl) ?_
  refine pk_val rfl rfl rfl (val_len_slice rfl Tryz.underlying42 rfl) ?_
  refine pk_val rfl rfl rfl (val_lss rfl rfl rfl) ?_
  refine pk_nil ?_
  refine thru_on ?_
  refine pk_if rfl (fun h3 => ?_) (fun h3 => ?_)
  · skip
    refine pk_skip ?_
    refine thru_on ?_
    have hk : k < vs.length := by omega
    have hmem := getD_mem dSl hk
    have hv := hV.each _ hmem
    have hvl := hv.len
    refine Pk.tells (hV.cons.cons.rows.some_of (by rw [flat_length Sl.cells_len]; omega)) fun hA => ?_
    refine pk_seq ?_
    refine pk_block ?_
    refine pk_seq ?_
    refine pk_region ?_
    refine pk_val rfl rfl rfl (val_move rfl rfl) ?_
    refine pk_val rfl rfl rfl (val_move rfl rfl) ?_
    refine pk_val rfl rfl rfl (val_indexAddr rfl Tryz.underlying42 4 (by kernel_rfl) rfl rfl k rfl hk (Ent.pure hA)) ?_
    refine pk_val rfl rfl rfl (val_fieldAddr rfl Tryz.underlying36 3 1 (by kernel_rfl) (by decide) rfl (Ent.pure (by first | rfl | assumption))) ?_
    refine pk_val rfl rfl rfl (val_load rfl Tryz.underlying28 rfl rfl (hV.cons.cons.rows.rd ((get_flat Sl.cells_len dSl hk (by decide)).trans rfl))) ?_
    refine pk_eff (eff_callx rfl ⟨_, Tryz.func32, by kernel_rfl, rfl⟩ rfl (fun E w s => l28_own_c (l := (vs.getD k dSl).a.f) s hv.row.cons.cons rfl hv.len)) rfl rfl rfl (fun q17 _ => ?_)
    refine pk_eff (eff_buildSlice (len := 1) (sz := 1) (z := #[.int .u8 0]) rfl Tryz.underlying28 (by kernel_rfl) rfl rfl rfl (by decide) (by decide) rfl rfl) rfl rfl rfl (fun b18 _ => ?_)
    refine pk_eff (eff_append1 (sz := 1) (bytes := 1) (z := .int .u8 0) 1 rfl Tryz.underlying28 (by kernel_rfl) rfl (by decide) (by decide) rfl rfl rfl (Ent.own 0 rfl) (by rw [List.length_map, Nat.mul_one]) rfl rfl (by omega)) rfl rfl rfl (fun q19 _ => ?_)
    refine pk_val rfl rfl rfl (val_assign rfl rfl) ?_
    refine pk_nil ?_
    refine thru_on ?_
    refine Pk.tells (Ent.cap 1 rfl) fun hcap => ?_
    refine pk_drawk (.val 0 (.val 1 (.val 2 (.val 3 (.val 4 (.val 5 (.val 6 (.val 7 (.val 8 (.val 9 (.val 10 (.val 11 (.val 12 (.val 13 (.val 14 (.val 15 (.val 16 (.val 17 (.val 18 (.val 19 (.val 20 (.val 21 (.val 22 (.val 23 (.val 24 (.eff 25 (.eff 26 (.val 27 .nil)))))))))))))))))))))))))))) 1028 [true, true, true, false] rfl (by kernel_rfl) (fun _ _ _ _ _ h => h) ?_
    refine ord_val rfl rfl rfl rfl (fun _ h => (Sats.keep [true, true, true, false] h :)) (val_move rfl rfl) ?_
    refine ord_val rfl rfl rfl rfl (fun _ h => (Sats.keep [true, true, true, false] h :)) (val_move rfl rfl) ?_
    refine ord_val rfl rfl rfl rfl (fun _ h => (Sats.keep [true, true, true, false] h :)) (val_move rfl rfl) ?_
    refine ord_val rfl rfl rfl rfl (fun _ h => (Sats.keep [true, true, true, false] h :)) (val_indexAddr rfl Tryz.underlying42 4 (by kernel_rfl) rfl rfl k rfl hk (Ent.pure hA)) ?_
    refine ord_val rfl rfl rfl rfl (fun _ h => (Sats.keep [true, true, true, false] h :)) (val_fieldAddr rfl Tryz.underlying36 0 1 (by kernel_rfl) (by decide) rfl (Ent.pure (by first | rfl | assumption))) ?_
    refine ord_val rfl rfl rfl rfl (fun _ h => (Sats.keep [true, true, true, false] h :)) (val_load rfl Tryz.underlying9 rfl rfl (hV.cons.cons.cons.rows.rd ((get_flat Sl.cells_len dSl hk (by decide)).trans rfl))) ?_
    refine ord_val rfl rfl rfl rfl (fun _ h => (Sats.keep [true, true, true, false] h :)) (val_move rfl rfl) ?_
    refine ord_val rfl rfl rfl rfl (fun _ h => (Sats.keep [true, true, true, false] h :)) (val_move rfl rfl) ?_
    refine ord_val rfl rfl rfl rfl (fun _ h => (Sats.keep [true, true, true, false] h :)) (val_indexAddr rfl Tryz.underlying42 4 (by kernel_rfl) rfl rfl k rfl hk (Ent.pure hA)) ?_
    refine ord_val rfl rfl rfl rfl (fun _ h => (Sats.keep [true, true, true, false] h :)) (val_fieldAddr rfl Tryz.underlying36 1 1 (by kernel_rfl) (by decide) rfl (Ent.pure (by first | rfl | assumption))) ?_
    refine ord_val rfl rfl rfl rfl (fun _ h => (Sats.keep [true, true, true, false] h :)) (val_load rfl Tryz.underlying23 rfl rfl (hV.cons.cons.cons.rows.rd ((get_flat Sl.cells_len dSl hk (by decide)).trans rfl))) ?_
    refine ord_val rfl rfl rfl rfl (fun _ h => (Sats.keep [true, true, true, false] h :)) (val_move rfl rfl) ?_
    refine ord_val rfl rfl rfl rfl (fun _ h => (Sats.keep [true, true, true, false] h :)) (val_move rfl rfl) ?_
    refine ord_val rfl rfl rfl rfl (fun _ h => (Sats.keep [true, true, true, false] h :)) (val_indexAddr rfl Tryz.underlying42 4 (by kernel_rfl) rfl rfl k rfl hk (Ent.pure hA)) ?_
    refine ord_val rfl rfl rfl rfl (fun _ h => (Sats.keep [true, true, true, false] h :)) (val_fieldAddr rfl Tryz.underlying36 2 1 (by kernel_rfl) (by decide) rfl (Ent.pure (by first | rfl | assumption))) ?_
    refine ord_val rfl rfl rfl rfl (fun _ h => (Sats.keep [true, true, true, false] h :)) (val_load rfl Tryz.underlying9 rfl rfl (hV.cons.cons.cons.rows.rd ((get_flat Sl.cells_len dSl hk (by decide)).trans rfl))) ?_
    refine ord_val rfl rfl rfl rfl (fun _ h => (Sats.keep [true, true, true, false] h :)) (val_move rfl rfl) ?_
    refine ord_val rfl rfl rfl rfl (fun _ h => (Sats.keep [true, true, true, false] h :)) (val_move rfl rfl) ?_
    refine ord_val rfl rfl rfl rfl (fun _ h => (Sats.keep [true, true, true, false] h :)) (val_move rfl rfl) ?_
    refine ord_val rfl rfl rfl rfl (fun _ h => (Sats.keep [true, true, true, false] h :)) (val_indexAddr rfl Tryz.underlying42 4 (by kernel_rfl) rfl rfl k rfl hk (Ent.pure hA)) ?_
    refine ord_val rfl rfl rfl rfl (fun _ h => (Sats.keep [true, true, true, false] h :)) (val_fieldAddr rfl Tryz.underlying36 3 1 (by kernel_rfl) (by decide) rfl (Ent.pure (by first | rfl | assumption))) ?_
    refine ord_val rfl rfl rfl rfl (fun _ h => (Sats.keep [true, true, true, false] h :)) (val_load rfl Tryz.underlying28 rfl rfl (hV.cons.cons.cons.rows.rd ((get_flat Sl.cells_len dSl hk (by decide)).trans rfl))) ?_
    refine ord_val rfl rfl rfl rfl (fun _ h => (Sats.keep [true, true, true, false] h :)) (val_len_slice rfl Tryz.underlying28 rfl) ?_
    refine ord_val rfl rfl rfl rfl (fun _ h => (Sats.keep [true, true, true, false] h :)) (val_slice_h rfl Tryz.underlying28 (by kernel_rfl) rfl rfl (vs.getD k dSl).a.f.length rfl (by omega)) ?_
    refine ord_val rfl rfl rfl rfl (fun _ h => (Sats.keep [true, true, true, false] h :)) (val_build (z := [.string ⟨#[]⟩, .int .u64 0, .string ⟨#[]⟩, .slice none 0 0]) [(0, 1), (1, 1), (2, 1), (3, 1)] rfl Tryz.underlying30 (by kernel_rfl) (by kernel_rfl) rfl rfl rfl) ?_
    refine ord_eff (eff_buildSlice (len := 1) (sz := 4) (z := #[.string ⟨#[]⟩, .int .u64 0, .string ⟨#[]⟩, .slice none 0 0]) rfl Tryz.underlying43 (by kernel_rfl) rfl rfl rfl (by decide) (by decide) rfl rfl) rfl rfl rfl rfl (.inr fun _ _ => (fun _ h => (Sats.keep [false, true, true, true, false] h :))) (fun b45 _ => ?_)
    refine ord_eff (eff_append1 (sz := 4) (bytes := 64) (z := .agg #[.string ⟨#[]⟩, .int .u64 0, .string ⟨#[]⟩, .slice none 0 0]) 4 rfl Tryz.underlying43 (by kernel_rfl) rfl (by decide) (by decide) rfl rfl rfl (Ent.own 0 rfl) (by first | rfl | (simp; done) | exact flat_length (s := 4) (fun _ => rfl) _) (by first | rfl | (simp; done)) rfl (by omega)) rfl rfl rfl rfl (.inr fun _ _ => (fun _ h => (Sats.keep [false, true, true, true, false] h :))) (fun q46 _ => ?_)
    refine ord_val rfl rfl rfl rfl (fun _ h => (Sats.keep [false, true, true, true, false] h :)) (val_assign rfl rfl) ?_
    refine ord_nil ?_
    refine in_on ?_
    refine thru_on ?_
    refine pk_region ?_
    refine pk_val rfl rfl rfl (val_move rfl rfl) ?_
    refine pk_val rfl rfl rfl (val_add rfl rfl rfl (by omega)) ?_
    refine pk_val rfl rfl rfl (val_assign rfl rfl) ?_
    refine pk_nil ?_
    refine thru_on ?_
    refine pk_next (x := ⟨k, q, d1, outs⟩) ((k + 1, q46.1, q46.2, outs ++ [⟨(vs.getD k dSl).a, q19.1, q19.2⟩])) ?_ ?_ ?_ ?_
    · (try dsimp only) <;> exact ⟨hk, by (try dsimp only); rw [sxs_take1 hk, ← hI]; simp [sxs]⟩
    · (try dsimp only); exact (by omega)
    · exact ⟨(Sub.cons rfl (by first | rfl | (congr 1; omega) | simp) (Sub.cons rfl (by simp) (Sub.cons rfl (by first | rfl | (congr 1; omega) | simp) (Sub.nil _)))), rfl⟩
    · exact (fun _ h => by (try dsimp only); rw [List.flatMap_append, List.length_append]; exact Sats.cat_snoc (f := slC1) (y := (⟨(vs.getD k dSl).a, q19.1, q19.2⟩ : Sl)) (Sats.keep [false, false, true, true, true] h))
  · skip
    refine pk_exit ?_
    refine thru ?_
    refine thru ?_
    refine pk_here ?_
    refine thru_on ?_
    refine pk_seq ?_
    refine pk_region ?_
    refine pk_val rfl rfl rfl (val_move rfl rfl) ?_
    refine pk_val rfl rfl rfl (val_build (z := [.string ⟨#[]⟩, .int .u64 0, .string ⟨#[]⟩, .slice none 0 0]) [(0, 1), (1, 1), (2, 1), (3, 1)] rfl Tryz.underlying30 (by kernel_rfl) (by kernel_rfl) rfl rfl rfl) ?_
    refine pk_eff (eff_buildSlice (len := 1) (sz := 4) (z := #[.string ⟨#[]⟩, .int .u64 0, .string ⟨#[]⟩, .slice none 0 0]) rfl Tryz.underlying43 (by kernel_rfl) rfl rfl rfl (by decide) (by decide) rfl rfl) rfl rfl rfl (fun b49 _ => ?_)
    refine pk_eff (eff_append1 (sz := 4) (bytes := 64) (z := .agg #[.string ⟨#[]⟩, .int .u64 0, .string ⟨#[]⟩, .slice none 0 0]) 2 rfl Tryz.underlying43 (by kernel_rfl) rfl (by decide) (by decide) rfl rfl rfl (Ent.own 0 rfl) (flat_length Sl.cells_len _) rfl rfl (by omega)) rfl rfl rfl (fun q50 _ => ?_)
    refine pk_val rfl rfl rfl (val_assign rfl rfl) ?_
    refine pk_nil ?_
    refine thru_on ?_
    refine pk_seq ?_
    refine Pk.tells (Ent.cap 2 rfl) fun hcap => ?_
    refine pk_region ?_
    refine pk_val rfl rfl rfl (val_move rfl rfl) ?_
    refine pk_val rfl rfl rfl (val_move rfl rfl) ?_
    refine pk_val rfl rfl rfl (val_len_slice rfl Tryz.underlying42 rfl) ?_
    refine pk_val rfl rfl rfl (val_slice_h rfl Tryz.underlying43 (by kernel_rfl) rfl rfl vs.length rfl (by omega)) ?_
    refine pk_val rfl rfl rfl (val_assign rfl rfl) ?_
    refine pk_nil ?_
    refine thru_on ?_
    refine pk_ret ?_
    have hkk : k = vs.length := by omega
    refine ret1 rfl rfl fun w s => ⟨(q50.1, q50.2, outs), ?_, rfl, s.to fun _ h => ?_⟩
    · dsimp only; rw [hI, hkk, List.take_length]
    · exact ((Sats.pick 3 [2, 1] rfl h :))
def sA : ByteArray := ⟨#[97]⟩
def s1 : ByteArray := ⟨#[49]⟩
def saX : Sa := comF (putF sa0 65536 [(sA, s1)] [sA] 0).1 65536 0
def x1 : Sx := ofX (latA saX sA) 8 2
theorem x1_facts : ofOk (latA saX sA) 8 2 = true ∧ x1.id = 65536 ∧ x1.val = s1 ∧ x1.f.length = 6 ∧ formedX [x1] = true ∧ askB x1 x1 = false ∧ x1.key = sA ∧ x1.f.all (fun b => decide (b < 256)) = true := by
  refine ⟨by kernel_rfl, by kernel_rfl, by kernel_rfl, by kernel_rfl, by kernel_rfl, by kernel_rfl, by kernel_rfl, by kernel_rfl⟩
theorem saX_keys : (saX.vs.all fun p => p.2.keys.all fun k => decide (k.size ≤ 65535)) = true := by kernel_rfl
theorem saX_sz : KeySz saX := fun p hp k hk => by
  have := List.all_eq_true.1 saX_keys p hp
  exact of_decide_eq_true (List.all_eq_true.1 this k hk)
theorem validK_one : validK [sA] = true := by
  have e : srtL slt [sA] = [sA] := by simp [srtL]
  simp only [validK, e]; decide
theorem small0 : Small 0 sa0 := ⟨fun p hp => by simp [sa0] at hp, fun p hp => by simp [sa0] at hp, fun p hp => by simp [sa0] at hp⟩
theorem homeZ_one (z : Zt) (k : ByteArray) : homeZ [z] k = z := by
  have : ofN k 1 = 0 := by have := ofN_lt k (p := 1) (by omega); omega
  simp [homeZ, this]
theorem cat_caps {vs : List Sl} {L : List Ch} (i : Nat) (e : L[i]? = some (Eng.cat (vs.map slC))) {v : Sl} (hv : v ∈ vs) {h : Hp} (s : Sats L h) : v.a.f.length ≤ v.c := by
  obtain ⟨j, hj, ex⟩ := List.mem_iff_getElem.1 hv
  exact Ent.cat (F := fun _ => v.a.f.length ≤ v.c) (x := v) (j := j) i e (by simp [hj, ex]) (fun h o => o.2.1) (fun _ _ _ h => h) h s
theorem slims_in {vs : List Sl} {L : List Ch} {A : Option Addr} {n c : Nat} {t : TypeId} (i j : Nat) (ei : L[i]? = some (own A n c t 4 (vs.flatMap Sl.cells))) (ej : L[j]? = some (Eng.cat (vs.map slC))) (hcap : ∀ v ∈ vs, v.a.f.length ≤ v.c) (hb : ∀ v ∈ vs, Byt v.a.f) (hl : ∀ v ∈ vs, v.a.f.length ≤ 1099511627776) (hk : ∀ v ∈ vs, v.a.key.size ≤ 4611686018427387904) (hn : vs.length ≤ 4611686018427387904) : SlimsIn L A vs where
  rows := Ent.own i ei
  each v hv := by
    obtain ⟨k, hk', ex⟩ := List.mem_iff_getElem.1 hv
    exact ⟨Ent.cat (F := RdL v.A (v.a.f.map bV)) (x := v) (j := k) j ej (by simp [hk', ex]) (fun h o => own_rd o) (fun _ _ l r => r.mono l), hb v hv, hcap v hv, hl v hv, hk v hv⟩
  len := hn
theorem sxs_one {vs : List Sl} {x : Sx} (h : sxs vs = [x]) : ∃ v, vs = [v] ∧ v.a = x := by
  cases vs with
  | nil => cases h
  | cons v r =>
    cases r with
    | nil => simp [sxs] at h; exact ⟨v, rfl, h⟩
    | cons _ _ => simp [sxs] at h
theorem l28_alive_c {E w : World} {L : List Ch} (s : Sat E w L) : Calls Tryz.prog 13 #[] w (Gives E (.bool true) L) := by
  refine enter (vs := []) Tryz.func13 rfl Tryz.ntmps13 rfl s ?_
  refine pk_seq ?_
  refine pk_region ?_
  refine pk_val rfl rfl rfl (val_assign rfl rfl) ?_
  refine pk_nil ?_
  refine thru_on ?_
  refine pk_seq ?_
  refine pk_region ?_
  refine pk_eff (eff_callx rfl ⟨_, Tryz.func25, by kernel_rfl, rfl⟩ rfl (fun E w s => store_New_c s)) rfl rfl rfl (fun q6 hq6 => ?_)
  refine pk_val rfl rfl rfl (val_assign rfl rfl) ?_
  refine pk_nil ?_
  refine thru_on ?_
  refine pk_seq ?_
  refine pk_seq ?_
  refine pk_region ?_
  refine pk_val rfl rfl rfl (val_move rfl rfl) ?_
  refine pk_val rfl rfl rfl (val_pnil_eql (a := some ⟨q6.1, 0, none⟩) (b := none) rfl Tryz.underlying59 rfl rfl (.inr rfl)) ?_
  refine pk_nil ?_
  refine thru_on ?_
  refine pk_if rfl (fun h0 => ?_) (fun h0 => ?_)
  · skip
    cases h0
  · skip
    refine pk_skip ?_
    refine thru_on ?_
    refine pk_seq ?_
    refine pk_region ?_
    refine pk_val rfl rfl rfl (val_move rfl rfl) ?_
    refine pk_val rfl rfl rfl (val_build (z := [.string ⟨#[]⟩, .string ⟨#[]⟩]) [(0, 1), (1, 1)] rfl Tryz.underlying97 (by kernel_rfl) (by kernel_rfl) rfl rfl rfl) ?_
    refine pk_eff (eff_buildSlice (len := 1) (sz := 2) (z := #[.string ⟨#[]⟩, .string ⟨#[]⟩]) rfl Tryz.underlying98 (by kernel_rfl) rfl rfl rfl (by decide) (by decide) rfl rfl) rfl rfl rfl (fun b11 _ => ?_)
    refine pk_eff (eff_buildSlice (len := 1) (sz := 1) (z := #[.string ⟨#[]⟩]) rfl Tryz.underlying24 (by kernel_rfl) rfl rfl rfl (by decide) (by decide) rfl rfl) rfl rfl rfl (fun b12 _ => ?_)
    refine pk_eff (eff_callx rfl ⟨_, Tryz.func40, by kernel_rfl, rfl⟩ rfl (fun E w s => store_Put_c (ps := [(sA, s1)]) (ks := [sA]) (N := 0) (s.to fun _ h => Sats.pull 2 rfl h) (Ent.own 1 rfl) (Ent.own 0 rfl) (by decide) (by rw [hq6]; exact small0) (by decide))) rfl rfl rfl (fun q13 hq13 => ?_)
    refine pk_nil ?_
    refine thru_on ?_
    refine pk_seq ?_
    refine pk_region ?_
    refine pk_val rfl rfl rfl (val_move rfl rfl) ?_
    refine pk_eff (eff_callx rfl ⟨_, Tryz.func41, by kernel_rfl, rfl⟩ rfl (fun E w s => store_Commit_c (N := 1) s (by have h1 := congrArg Prod.fst hq13; dsimp only at h1; rw [h1, hq6]; exact small0.put 65536 [(sA, s1)] [sA] 0) (by decide))) rfl rfl rfl (fun q15 hq15 => ?_)
    refine pk_nil ?_
    refine thru_on ?_
    refine pk_seq ?_
    refine pk_region ?_
    have hqX : q15.a = saX := by
          have h1 := congrArg Prod.fst hq13
          dsimp only at h1
          rw [hq15, h1, hq6]; rfl
    have hso : StsOk 1 [(q6.1, q15)] := ⟨fun z hz => by
          rw [List.mem_singleton.1 hz]; show Small 1 q15.a; rw [hqX]; exact (small0.put 65536 [(sA, s1)] [sA] 0).com _ _, fun z hz => by
          rw [List.mem_singleton.1 hz]; show KeySz q15.a; rw [hqX]; exact saX_sz⟩
    refine Pk.heap (fun _ h => (Sats.cat_shut (A := [_]) h : Sats (stsC [(q6.1, q15)] :: _) _)) ?_
    refine pk_val rfl rfl rfl (val_move rfl rfl) ?_
    refine pk_eff (eff_buildSlice (len := 1) (sz := 1) (z := #[.pointer none]) rfl Tryz.underlying61 (by kernel_rfl) rfl rfl rfl (by decide) (by decide) rfl rfl) rfl rfl rfl (fun b18 _ => ?_)
    refine pk_eff (eff_buildSlice (len := 1) (sz := 1) (z := #[.string ⟨#[]⟩]) rfl Tryz.underlying24 (by kernel_rfl) rfl rfl rfl (by decide) (by decide) rfl rfl) rfl rfl rfl (fun b19 _ => ?_)
    refine pk_val rfl rfl rfl (val_build (z := [.int .i64 0, .int .i64 0]) [(0, 1), (1, 1)] rfl Tryz.underlying35 (by kernel_rfl) (by kernel_rfl) rfl rfl rfl) ?_
    refine pk_eff (eff_callx rfl ⟨_, Tryz.func26, by kernel_rfl, rfl⟩ rfl (fun E w s => hybrid_First_c (zs := [(q6.1, q15)]) (ks := [sA]) (N := 1) (b := 8) (e := 2) (s.to fun _ h => Sats.pull 2 rfl h) (Ent.own 1 rfl) (Nat.le_refl 1) (show 1 ≤ 64 by decide) (Ent.own 0 rfl) (by decide) validK_one hso (fun k hk => by rw [List.mem_singleton.1 hk, homeZ_one]; show ofOk (latA q15.a sA) 8 2 = true; rw [hqX]; exact x1_facts.1))) rfl rfl rfl (fun q21 hq21 => ?_)
    refine pk_val rfl rfl rfl (val_move rfl rfl) ?_
    refine pk_val rfl rfl rfl (val_extract rfl rfl rfl) ?_
    refine pk_val rfl rfl rfl (val_extract rfl rfl rfl) ?_
    refine pk_val rfl rfl rfl (val_assign rfl rfl) ?_
    refine pk_val rfl rfl rfl (val_assign rfl rfl) ?_
    refine pk_nil ?_
    refine thru_on ?_
    refine pk_seq ?_
    refine pk_region ?_
    obtain ⟨qa, qc, vs⟩ := q21
    dsimp only at hq21 ⊢
    have hq21' : sxs vs = [x1] := by
          rw [hq21, firstX, List.map_cons, List.map_nil, homeZ_one]; show [ofX (latA q15.a sA) 8 2] = _; rw [hqX]; rfl
    obtain ⟨v, rfl, hva⟩ := sxs_one hq21'
    have hsx : sxs [v] = [x1] := hq21'
    refine Pk.tells (fun h s => fun (u : Sl) (hu : u ∈ [v]) => cat_caps 1 rfl hu s) fun hcap => ?_
    have hbyt : ∀ u ∈ [v], Byt u.a.f := fun u hu => by
          rw [List.mem_singleton.1 hu, hva]; exact fun b hb => of_decide_eq_true (List.all_eq_true.1 x1_facts.2.2.2.2.2.2.2 b hb)
    have hfl : ∀ u ∈ [v], u.a.f.length ≤ 1099511627776 := fun u hu => by
          rw [List.mem_singleton.1 hu, hva, x1_facts.2.2.2.1]; decide
    have hkl : ∀ u ∈ [v], u.a.key.size ≤ 4611686018427387904 := fun u hu => by
          rw [List.mem_singleton.1 hu, hva, x1_facts.2.2.2.2.2.2.1]; decide
    refine pk_val rfl rfl rfl (val_move rfl rfl) ?_
    refine pk_eff (eff_buildSlice (len := 1) (sz := 1) (z := #[.pointer none]) rfl Tryz.underlying61 (by kernel_rfl) rfl rfl rfl (by decide) (by decide) rfl rfl) rfl rfl rfl (fun b26 _ => ?_)
    refine pk_val rfl rfl rfl (val_move rfl rfl) ?_
    refine pk_val rfl rfl rfl (val_build (z := [.int .i64 0, .int .i64 0]) [(0, 1), (1, 1)] rfl Tryz.underlying35 (by kernel_rfl) (by kernel_rfl) rfl rfl rfl) ?_
    refine pk_eff (eff_callx rfl ⟨_, Tryz.func27, by kernel_rfl, rfl⟩ rfl (fun E w s => hybrid_Second_none (ps := zps [(q6.1, q15)]) (vs := [v]) (b := 8) (e := 2) s (Ent.own 0 rfl) (zps_good (Nat.le_refl 1) (show 1 ≤ 64 by decide)) (slims_in 1 2 rfl rfl hcap hbyt hfl hkl (show 1 ≤ 4611686018427387904 by decide)) (by decide) (by rw [hsx]; exact x1_facts.2.2.2.2.1) (by rw [hsx]; intro u hu y hy; rw [List.mem_singleton.1 hu, List.mem_singleton.1 hy]; exact x1_facts.2.2.2.2.2.1))) rfl rfl rfl (fun q29 hq29 => ?_)
    refine pk_val rfl rfl rfl (val_move rfl rfl) ?_
    refine pk_val rfl rfl rfl (val_extract rfl rfl rfl) ?_
    refine pk_val rfl rfl rfl (val_extract rfl rfl rfl) ?_
    refine pk_val rfl rfl rfl (val_assign rfl rfl) ?_
    refine pk_val rfl rfl rfl (val_assign rfl rfl) ?_
    refine pk_nil ?_
    refine thru_on ?_
    refine pk_seq ?_
    obtain ⟨qb, qd, ws⟩ := q29
    dsimp only at hq29 ⊢
    obtain ⟨v2, rfl, hv2⟩ := sxs_one (hq29.trans hsx)
    refine Pk.tells ((Ent.own 3 rfl).some_of (by show 0 < 4; decide)) fun hA1 => ?_
    refine Pk.tells ((Ent.own 0 rfl).some_of (by show 0 < 4; decide)) fun hA2 => ?_
    have hi1 : v.a.id = 65536 := by rw [hva]; exact x1_facts.2.1
    have hi2 : v2.a.id = 65536 := by rw [hv2]; exact x1_facts.2.1
    have hi3 : v2.a.val = ⟨#[49]⟩ := by rw [hv2]; exact x1_facts.2.2.1
    have hi4 : ((v.a.f.length : Nat) : Int) = 6 := by rw [hva, x1_facts.2.2.2.1]; rfl
    refine pk_region ?_
    refine pk_val rfl rfl rfl (val_move rfl rfl) ?_
    refine pk_val rfl rfl rfl (val_eql rfl rfl rfl) ?_
    refine pk_val rfl rfl rfl (val_move rfl rfl) ?_
    refine pk_guard_yes rfl rfl rfl ?_
    refine pk_val rfl rfl rfl (val_move rfl rfl) ?_
    refine pk_guard_yes rfl rfl rfl ?_
    refine pk_val rfl rfl rfl (val_eql rfl rfl rfl) ?_
    refine pk_val rfl rfl rfl (val_pick rfl rfl rfl rfl) ?_
    refine pk_val rfl rfl rfl (val_move rfl rfl) ?_
    refine pk_guard_yes rfl rfl rfl ?_
    refine pk_val rfl rfl rfl (val_move rfl rfl) ?_
    refine pk_guard_yes rfl rfl rfl ?_
    refine pk_val rfl rfl rfl (val_len_slice rfl Tryz.underlying43 rfl) ?_
    refine pk_guard_yes rfl rfl rfl ?_
    refine pk_val rfl rfl rfl (val_eql rfl rfl rfl) ?_
    refine pk_val rfl rfl rfl (val_pick rfl rfl rfl rfl) ?_
    refine pk_val rfl rfl rfl (val_move rfl rfl) ?_
    refine pk_guard_yes rfl rfl rfl ?_
    refine pk_val rfl rfl rfl (val_move rfl rfl) ?_
    refine pk_guard_yes rfl rfl rfl ?_
    refine pk_val rfl rfl rfl (val_len_slice rfl Tryz.underlying43 rfl) ?_
    refine pk_guard_yes rfl rfl rfl ?_
    refine pk_val rfl rfl rfl (val_eql rfl rfl rfl) ?_
    refine pk_val rfl rfl rfl (val_pick rfl rfl rfl rfl) ?_
    refine pk_val rfl rfl rfl (val_move rfl rfl) ?_
    refine pk_guard_yes rfl rfl rfl ?_
    refine pk_val rfl rfl rfl (val_move rfl rfl) ?_
    refine pk_guard_yes rfl rfl rfl ?_
    refine pk_val rfl rfl rfl (val_indexAddr rfl Tryz.underlying43 4 (by kernel_rfl) rfl rfl 0 rfl (show 0 < 1 by decide) (Ent.pure hA1)) ?_
    refine pk_guard_yes rfl rfl rfl ?_
    refine pk_val rfl rfl rfl (val_fieldAddr rfl Tryz.underlying30 1 1 (by kernel_rfl) (by decide) rfl (Ent.pure (by first | rfl | assumption))) ?_
    refine pk_guard_yes rfl rfl rfl ?_
    refine pk_val rfl rfl rfl (val_load (v := .int .u64 v.a.id) rfl Tryz.underlying23 rfl rfl ((Ent.own 3 rfl).rd rfl)) ?_
    refine pk_guard_yes rfl rfl rfl ?_
    refine pk_val rfl rfl rfl (val_eql rfl rfl rfl) ?_
    refine pk_val rfl rfl rfl (val_pick rfl rfl rfl rfl) ?_
    refine pk_val rfl rfl rfl (val_move rfl rfl) ?_
    refine Pk.slot 55 (v := .bool true) rfl (congrArg Value.bool (decide_eq_true hi1)) ?_
    refine pk_guard_yes rfl rfl rfl ?_
    refine pk_val rfl rfl rfl (val_move rfl rfl) ?_
    refine pk_guard_yes rfl rfl rfl ?_
    refine pk_val rfl rfl rfl (val_indexAddr rfl Tryz.underlying43 4 (by kernel_rfl) rfl rfl 0 rfl (show 0 < 1 by decide) (Ent.pure hA2)) ?_
    refine pk_guard_yes rfl rfl rfl ?_
    refine pk_val rfl rfl rfl (val_fieldAddr rfl Tryz.underlying30 1 1 (by kernel_rfl) (by decide) rfl (Ent.pure (by first | rfl | assumption))) ?_
    refine pk_guard_yes rfl rfl rfl ?_
    refine pk_val rfl rfl rfl (val_load (v := .int .u64 v2.a.id) rfl Tryz.underlying23 rfl rfl ((Ent.own 0 rfl).rd rfl)) ?_
    refine pk_guard_yes rfl rfl rfl ?_
    refine pk_val rfl rfl rfl (val_eql rfl rfl rfl) ?_
    refine pk_val rfl rfl rfl (val_pick rfl rfl rfl rfl) ?_
    refine pk_val rfl rfl rfl (val_move rfl rfl) ?_
    refine Pk.slot 62 (v := .bool true) rfl (congrArg Value.bool (decide_eq_true hi2)) ?_
    refine pk_guard_yes rfl rfl rfl ?_
    refine pk_val rfl rfl rfl (val_move rfl rfl) ?_
    refine pk_guard_yes rfl rfl rfl ?_
    refine pk_val rfl rfl rfl (val_indexAddr rfl Tryz.underlying43 4 (by kernel_rfl) rfl rfl 0 rfl (show 0 < 1 by decide) (Ent.pure hA2)) ?_
    refine pk_guard_yes rfl rfl rfl ?_
    refine pk_val rfl rfl rfl (val_fieldAddr rfl Tryz.underlying30 2 1 (by kernel_rfl) (by decide) rfl (Ent.pure (by first | rfl | assumption))) ?_
    refine pk_guard_yes rfl rfl rfl ?_
    refine pk_val rfl rfl rfl (val_load (v := .string v2.a.val) rfl Tryz.underlying9 rfl rfl ((Ent.own 0 rfl).rd rfl)) ?_
    refine pk_guard_yes rfl rfl rfl ?_
    refine pk_val rfl rfl rfl (val_str_eql rfl rfl rfl) ?_
    refine pk_val rfl rfl rfl (val_pick rfl rfl rfl rfl) ?_
    refine pk_val rfl rfl rfl (val_move rfl rfl) ?_
    refine Pk.slot 69 (v := .bool true) rfl (congrArg Value.bool (decide_eq_true hi3)) ?_
    refine pk_guard_yes rfl rfl rfl ?_
    refine pk_val rfl rfl rfl (val_move rfl rfl) ?_
    refine pk_guard_yes rfl rfl rfl ?_
    refine pk_val rfl rfl rfl (val_indexAddr rfl Tryz.underlying43 4 (by kernel_rfl) rfl rfl 0 rfl (show 0 < 1 by decide) (Ent.pure hA1)) ?_
    refine pk_guard_yes rfl rfl rfl ?_
    refine pk_val rfl rfl rfl (val_fieldAddr rfl Tryz.underlying30 3 1 (by kernel_rfl) (by decide) rfl (Ent.pure (by first | rfl | assumption))) ?_
    refine pk_guard_yes rfl rfl rfl ?_
    refine pk_val rfl rfl rfl (val_load (v := .slice v.A v.a.f.length v.c) rfl Tryz.underlying28 rfl rfl ((Ent.own 3 rfl).rd rfl)) ?_
    refine pk_guard_yes rfl rfl rfl ?_
    refine pk_val rfl rfl rfl (val_len_slice rfl Tryz.underlying28 rfl) ?_
    refine pk_guard_yes rfl rfl rfl ?_
    refine pk_val rfl rfl rfl (val_eql rfl rfl rfl) ?_
    refine pk_val rfl rfl rfl (val_pick rfl rfl rfl rfl) ?_
    refine pk_val rfl rfl rfl (val_move rfl rfl) ?_
    refine Pk.slot 77 (v := .bool true) rfl (congrArg Value.bool (decide_eq_true hi4)) ?_
    refine pk_guard_yes rfl rfl rfl ?_
    refine pk_val rfl rfl rfl (val_move rfl rfl) ?_
    refine pk_guard_yes rfl rfl rfl ?_
    refine pk_eff (eff_call1 rfl ⟨_, Tryz.func19, by kernel_rfl, rfl⟩ rfl (fun E w s => hybrid_Formed_c (vs := [v]) s (slims_in 3 4 rfl rfl hcap hbyt hfl hkl (show 1 ≤ 4611686018427387904 by decide)))) rfl rfl rfl (fun _ _ => ?_)
    refine pk_val rfl rfl rfl (val_pick rfl rfl rfl rfl) ?_
    refine pk_val rfl rfl rfl (val_assign rfl rfl) ?_
    refine pk_nil ?_
    refine thru_on ?_
    refine pk_ret ?_
    refine ret1 rfl rfl fun w s => ⟨?_, s.to (fun _ h => Sats.keep [false, false, false, false, false, false, false, false, false, false] h)⟩
    have e : formedX (sxs [v]) = true := by rw [hsx]; exact x1_facts.2.2.2.2.1
    rw [e]; rfl
end Go.Proofs.YtdpckendkklfdaaGreat
