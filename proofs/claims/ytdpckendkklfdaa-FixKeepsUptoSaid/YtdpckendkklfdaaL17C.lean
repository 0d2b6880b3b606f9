/- The walks of rampartlaw17, third part: version, known. -/
import Derived.Test.YtdpckendkklfdaaL17B
set_option linter.unusedVariables false
set_option linter.unusedSimpArgs false
set_option maxRecDepth 100000
namespace Go.Proofs.Ytdpckendkklfdaa
open Go.RowKit Go.Proofs.Eng
theorem law17_version_c {E w : World} {L : List Ch} {A : Option Addr} {n c : Nat} {k : ByteArray} {id : Int} (s : Sat E w L) :
    Calls Try.prog 30 #[.string k, .int .u64 id, .slice A n c] w (Gives E (.agg #[.string k, .int .u64 id, .string (if id ≠ 0 then ⟨#[118]⟩ else ⟨#[]⟩), .slice A n c]) L) := by
  refine enter (vs := [_, _, _]) Try.func30 rfl Try.ntmps30 rfl s ?_
  refine pk_seq ?_
  refine pk_region ?_
  refine pk_eff (eff_alloc (z := [.string ⟨#[]⟩, .int .u64 0, .string ⟨#[]⟩, .slice none 0 0]) rfl (by kernel_rfl)) rfl rfl rfl (fun b6 _ => ?_)
  refine pk_nil ?_
  refine thru_on ?_
  refine pk_seq ?_
  refine pk_region ?_
  refine pk_val rfl rfl rfl (val_move rfl rfl) ?_
  refine pk_val rfl rfl rfl (val_move rfl rfl) ?_
  refine pk_val rfl rfl rfl (val_move rfl rfl) ?_
  refine pk_val rfl rfl rfl (val_build (z := [.string ⟨#[]⟩, .int .u64 0, .string ⟨#[]⟩, .slice none 0 0]) [(0, 1), (1, 1), (2, 1), (3, 1)] rfl Try.underlying36 (by kernel_rfl) (by kernel_rfl) rfl rfl rfl) ?_
  refine pk_eff (eff_alloc (z := [.string ⟨#[]⟩, .int .u64 0, .string ⟨#[]⟩, .slice none 0 0]) rfl (by kernel_rfl)) rfl rfl rfl (fun b7 _ => ?_)
  refine pk_eff0 (eff_storeW 0 rfl rfl rfl rfl rfl (by kernel_rfl) rfl rfl rfl) rfl rfl (fun _ _ => ?_)
  refine pk_nil ?_
  refine thru_on ?_
  refine pk_seq ?_
  refine pk_seq ?_
  refine pk_region ?_
  refine pk_val rfl rfl rfl (val_move rfl rfl) ?_
  refine pk_val rfl rfl rfl (val_neq rfl rfl rfl) ?_
  refine pk_nil ?_
  refine thru_on ?_
  refine pk_if rfl (fun h => ?_) (fun h => ?_)
  · skip
    refine pk_region ?_
    refine pk_val rfl rfl rfl (val_fieldAddr rfl Try.underlying36 2 1 (by kernel_rfl) (by decide) rfl (Ent.pure rfl)) ?_
    refine pk_eff0 (eff_store 0 rfl rfl rfl rfl rfl (by kernel_rfl) rfl (by first | (simp; done) | exact Nat.le_refl _ | exact Nat.le_of_ble_eq_true rfl) (by first | (simp; done) | exact Nat.le_refl _ | exact Nat.le_of_ble_eq_true rfl)) rfl rfl (fun _ _ => ?_)
    refine pk_nil ?_
    refine thru_on ?_
    refine pk_seq ?_
    refine pk_region ?_
    refine pk_val rfl rfl rfl (val_loads rfl Try.underlying36 rfl (by kernel_rfl) rfl (Ent.pure rfl) ((Ent.own 0 rfl).rds (fun j v h => by rw [Nat.zero_add j]; exact h))) ?_
    refine pk_eff0 (eff_storeW 1 rfl rfl rfl rfl rfl (by kernel_rfl) rfl rfl rfl) rfl rfl (fun _ _ => ?_)
    refine pk_nil ?_
    refine thru_on ?_
    refine pk_ret ?_
    rw [if_pos h]
    refine ret1c rfl Try.underlying36 rfl (by kernel_rfl) rfl (Ent.pure rfl) (Ent.own 1 rfl) fun w s => ⟨rfl, s.to (fun _ h => Sats.keep [false, false] h)⟩
  · skip
    refine pk_skip ?_
    refine thru_on ?_
    refine pk_seq ?_
    refine pk_region ?_
    refine pk_val rfl rfl rfl (val_loads rfl Try.underlying36 rfl (by kernel_rfl) rfl (Ent.pure rfl) ((Ent.own 0 rfl).rds (fun j v h => by rw [Nat.zero_add j]; exact h))) ?_
    refine pk_eff0 (eff_storeW 1 rfl rfl rfl rfl rfl (by kernel_rfl) rfl rfl rfl) rfl rfl (fun _ _ => ?_)
    refine pk_nil ?_
    refine thru_on ?_
    refine pk_ret ?_
    rw [if_neg h]
    refine ret1c rfl Try.underlying36 rfl (by kernel_rfl) rfl (Ent.pure rfl) (Ent.own 1 rfl) fun w s => ⟨rfl, s.to (fun _ h => Sats.keep [false, false] h)⟩
def sA : ByteArray := ⟨#[97]⟩
def sB : ByteArray := ⟨#[98]⟩
def sC : ByteArray := ⟨#[99]⟩
def sV : ByteArray := ⟨#[118]⟩
def kA : Av := ⟨sA, 65536, sV, [sA, sB]⟩
def kB : Av := ⟨sB, 131072, sV, [sB, sC]⟩
def kC : Av := ⟨sC, 0, ⟨#[]⟩, []⟩
def kD : Av := ⟨sC, 131072, sV, [sB, sC]⟩
theorem known_needs : needsL [kA, kB, kC] = [(sC, 131072)] := by decide
theorem known_err : errN [kA, kB, kC] = 0 := by decide
theorem known_mend : mendL [kA, kB, kC] [kD] = [kA, kB, kD] := by decide
theorem known_mende : mendE [kA, kB, kC] [kD] = 0 := by decide
theorem known_mend0 : mendL [kA, kB, kC] [] = [] := by decide
theorem known_mende0 : mendE [kA, kB, kC] [] = 110 := by decide
theorem known_cut : cutB [kA, kB, kC] = false := by decide
theorem known_cut2 : cutB [kA, kB, kD] = true := by decide
theorem known_formed : formedB [kA, kB, kC] = true := by decide
theorem known_formed0 : formedB [] = false := by decide
theorem law17_version_v {E w : World} {L : List Ch} {A : Option Addr} {n c : Nat} {k : ByteArray} {id : Int} (s : Sat E w L) (h : id ≠ 0) :
    Calls Try.prog 30 #[.string k, .int .u64 id, .slice A n c] w (Gives E (.agg #[.string k, .int .u64 id, .string ⟨#[118]⟩, .slice A n c]) L) := by
  have := law17_version_c (k := k) (id := id) (A := A) (n := n) (c := c) s
  rw [if_pos h] at this; exact this
theorem law17_version_0 {E w : World} {L : List Ch} {A : Option Addr} {n c : Nat} {k : ByteArray} (s : Sat E w L) :
    Calls Try.prog 30 #[.string k, .int .u64 0, .slice A n c] w (Gives E (.agg #[.string k, .int .u64 0, .string ⟨#[]⟩, .slice A n c]) L) := by
  have := law17_version_c (k := k) (id := 0) (A := A) (n := n) (c := c) s
  rw [if_neg (by simp)] at this; exact this
def V3 (a b : Addr) : List Ver := [⟨kA, some a, 2⟩, ⟨kB, some b, 2⟩, ⟨kC, none, 0⟩]
def V1 (a : Addr) : List Ver := [⟨kD, some a, 2⟩]
theorem rd_nil {L : List Ch} {A : Option Addr} : Ent L (RdL A []) := fun h s k v e => by cases e
theorem verIn3 {L : List Ch} {a b t : Addr} (h : Ent L (RdL (some t) ((V3 a b).flatMap Ver.cells))) (h1 : Ent L (RdL (some a) [.string sA, .string sB])) (h2 : Ent L (RdL (some b) [.string sB, .string sC])) : VerIn L (some t) (V3 a b) := by
  refine ⟨h, fun v hv => ?_, by simp [V3], fun v hv => ?_⟩
  · simp only [V3, List.mem_cons, List.not_mem_nil, or_false] at hv
    rcases hv with rfl | rfl | rfl
    · exact h1
    · exact h2
    · exact rd_nil
  · simp only [V3, List.mem_cons, List.not_mem_nil, or_false] at hv
    rcases hv with rfl | rfl | rfl <;> simp [kA, kB, kC]
theorem verIn1 {L : List Ch} {a t : Addr} (h : Ent L (RdL (some t) ((V1 a).flatMap Ver.cells))) (h1 : Ent L (RdL (some a) [.string sB, .string sC])) : VerIn L (some t) (V1 a) := by
  refine ⟨h, fun v hv => ?_, by simp [V1], fun v hv => ?_⟩
  · simp only [V1, List.mem_cons, List.not_mem_nil, or_false] at hv
    subst hv
    exact h1
  · simp only [V1, List.mem_cons, List.not_mem_nil, or_false] at hv
    subst hv; simp [kD]
theorem verIn0 {L : List Ch} {A : Option Addr} : VerIn L A [] := ⟨rd_nil, fun v hv => (by cases hv), by simp, fun v hv => (by cases hv)⟩
/-- rows of our own can be read -/
theorem verIn_own {L : List Ch} {A : Option Addr} {n c : Nat} {t : TypeId} {vs : List Ver} (i j : Nat) (h1 : L[i]? = some (own A n c t 4 (vs.flatMap Ver.cells))) (h2 : L[j]? = some (cat (vs.map keysCh))) (hl : vs.length ≤ 1099511627776) (hk : ∀ v ∈ avs vs, v.keys.length ≤ 1099511627776) : VerIn L A vs := by
  refine ⟨Ent.own i h1, fun v hv => ?_, hl, fun v hv => hk _ (List.mem_map.2 ⟨v, hv, rfl⟩)⟩
  obtain ⟨k, hk⟩ := List.mem_iff_getElem?.1 hv
  exact Ent.cat (f := keysCh) j h2 hk (fun h o => own_rd o) (fun h h' le r => r.mono le)
theorem law17_known_c {E w : World} {L : List Ch} (s : Sat E w L) : Calls Try.prog 8 #[] w (Gives E (.bool true) L) := by
  refine enter (vs := []) Try.func8 rfl Try.ntmps8 rfl s ?_
  refine pk_seq ?_
  refine pk_region ?_
  refine pk_val rfl rfl rfl (val_assign rfl rfl) ?_
  refine pk_nil ?_
  refine thru_on ?_
  refine pk_seq ?_
  refine pk_region ?_
  refine pk_eff (eff_buildSlice (len := 2) (sz := 1) (z := #[.string ⟨#[]⟩]) rfl Try.underlying34 (by kernel_rfl) rfl rfl rfl (by decide) (by decide) rfl rfl) rfl rfl rfl (fun b8 _ => ?_)
  refine pk_eff (eff_call1 rfl ⟨_, Try.func30, by kernel_rfl, rfl⟩ rfl (fun E w s => law17_version_v s (by decide))) rfl rfl rfl (fun _ _ => ?_)
  refine pk_eff (eff_buildSlice (len := 2) (sz := 1) (z := #[.string ⟨#[]⟩]) rfl Try.underlying34 (by kernel_rfl) rfl rfl rfl (by decide) (by decide) rfl rfl) rfl rfl rfl (fun b10 _ => ?_)
  refine pk_eff (eff_call1 rfl ⟨_, Try.func30, by kernel_rfl, rfl⟩ rfl (fun E w s => law17_version_v s (by decide))) rfl rfl rfl (fun _ _ => ?_)
  refine pk_eff (eff_call1 rfl ⟨_, Try.func30, by kernel_rfl, rfl⟩ rfl (fun E w s => law17_version_0 s)) rfl rfl rfl (fun _ _ => ?_)
  refine pk_eff (eff_buildSlice (len := 3) (sz := 4) (z := #[.string ⟨#[]⟩, .int .u64 0, .string ⟨#[]⟩, .slice none 0 0]) rfl Try.underlying23 (by kernel_rfl) rfl rfl rfl (by decide) (by decide) rfl rfl) rfl rfl rfl (fun b13 _ => ?_)
  refine pk_val rfl rfl rfl (val_assign rfl rfl) ?_
  refine pk_nil ?_
  refine thru_on ?_
  refine pk_seq ?_
  refine pk_region ?_
  refine pk_val rfl rfl rfl (val_move rfl rfl) ?_
  refine pk_eff (eff_callx rfl ⟨_, Try.func7, by kernel_rfl, rfl⟩ rfl (fun E w s => fix_Needs_c (vs := V3 ⟨b8, 0, none⟩ ⟨b10, 0, none⟩) s (verIn3 (Ent.own 0 rfl) (Ent.own 2 rfl) (Ent.own 1 rfl)))) rfl rfl rfl (fun q16 _ => ?_)
  refine pk_val rfl rfl rfl (val_move rfl rfl) ?_
  refine pk_val rfl rfl rfl (val_extract rfl rfl rfl) ?_
  refine pk_val rfl rfl rfl (val_extract rfl rfl rfl) ?_
  refine pk_val rfl rfl rfl (val_assign rfl rfl) ?_
  refine pk_val rfl rfl rfl (val_assign rfl rfl) ?_
  refine pk_nil ?_
  refine thru_on ?_
  refine pk_seq ?_
  refine pk_region ?_
  refine pk_val rfl rfl rfl (val_move rfl rfl) ?_
  refine pk_eff (eff_buildSlice (len := 2) (sz := 1) (z := #[.string ⟨#[]⟩]) rfl Try.underlying34 (by kernel_rfl) rfl rfl rfl (by decide) (by decide) rfl rfl) rfl rfl rfl (fun b21 _ => ?_)
  refine pk_eff (eff_call1 rfl ⟨_, Try.func30, by kernel_rfl, rfl⟩ rfl (fun E w s => law17_version_v s (by decide))) rfl rfl rfl (fun _ _ => ?_)
  refine pk_eff (eff_buildSlice (len := 1) (sz := 4) (z := #[.string ⟨#[]⟩, .int .u64 0, .string ⟨#[]⟩, .slice none 0 0]) rfl Try.underlying23 (by kernel_rfl) rfl rfl rfl (by decide) (by decide) rfl rfl) rfl rfl rfl (fun b23 _ => ?_)
  refine pk_eff (eff_callx rfl ⟨_, Try.func10, by kernel_rfl, rfl⟩ rfl (fun E w s => fix_Mend_c (vs := V3 ⟨b8, 0, none⟩ ⟨b10, 0, none⟩) (gs := V1 ⟨b21, 0, none⟩) s (verIn3 (Ent.own 3 rfl) (Ent.own 5 rfl) (Ent.own 4 rfl)) (verIn1 (Ent.own 0 rfl) (Ent.own 1 rfl)))) rfl rfl rfl (fun q24 hq24 => ?_)
  refine pk_val rfl rfl rfl (val_move rfl rfl) ?_
  refine pk_val rfl rfl rfl (val_extract rfl rfl rfl) ?_
  refine pk_val rfl rfl rfl (val_extract rfl rfl rfl) ?_
  refine pk_val rfl rfl rfl (val_assign rfl rfl) ?_
  refine pk_val rfl rfl rfl (val_assign rfl rfl) ?_
  refine pk_nil ?_
  refine thru_on ?_
  refine pk_seq ?_
  refine pk_region ?_
  refine pk_val rfl rfl rfl (val_move rfl rfl) ?_
  refine pk_eff (eff_callx rfl ⟨_, Try.func10, by kernel_rfl, rfl⟩ rfl (fun E w s => fix_Mend_c (vs := V3 ⟨b8, 0, none⟩ ⟨b10, 0, none⟩) (gs := []) s (verIn3 (Ent.own 5 rfl) (Ent.own 7 rfl) (Ent.own 6 rfl)) verIn0)) rfl rfl rfl (fun q29 hq29 => ?_)
  refine pk_val rfl rfl rfl (val_move rfl rfl) ?_
  refine pk_val rfl rfl rfl (val_extract rfl rfl rfl) ?_
  refine pk_val rfl rfl rfl (val_extract rfl rfl rfl) ?_
  refine pk_val rfl rfl rfl (val_assign rfl rfl) ?_
  refine pk_val rfl rfl rfl (val_assign rfl rfl) ?_
  refine pk_nil ?_
  refine thru_on ?_
  refine pk_seq ?_
  refine pk_seq ?_
  refine pk_region ?_
  have hn0 : needsL (avs (V3 ⟨b8, 0, none⟩ ⟨b10, 0, none⟩)) = [(sC, 131072)] := known_needs
  have he0 : errN (avs (V3 ⟨b8, 0, none⟩ ⟨b10, 0, none⟩)) = 0 := known_err
  have hm1 : avs q24.2.2 = [kA, kB, kD] := hq24.trans known_mend
  have hm2 : mendE (avs (V3 ⟨b8, 0, none⟩ ⟨b10, 0, none⟩)) (avs (V1 ⟨b21, 0, none⟩)) = 0 := known_mende
  have hn1 : avs q29.2.2 = [] := hq29.trans known_mend0
  have hn2 : mendE (avs (V3 ⟨b8, 0, none⟩ ⟨b10, 0, none⟩)) (avs []) = 110 := known_mende0
  have hml : q24.2.2.length = 3 := by rw [← avs_len, hm1]; rfl
  have hnl : q29.2.2.length = 0 := by rw [← avs_len, hn1]; rfl
  have hkl : ∀ v ∈ avs q24.2.2, v.keys.length ≤ 1099511627776 := by rw [hm1]; decide
  refine Pk.tells ((Ent.own 6 rfl).some_of (by rw [hn0]; decide)) fun hw0 => ?_
  refine Pk.tells ((Ent.own 2 rfl).some_of (by rw [flat_length Ver.cells_len]; omega)) fun hm0 => ?_
  refine Pk.slot 2 (v := .slice q16.1 1 q16.2) rfl (by rw [hn0] <;> rfl) ?_
  refine Pk.slot 3 (v := .int .i64 0) rfl (by rw [he0] <;> rfl) ?_
  refine Pk.slot 5 (v := .int .i64 0) rfl (by rw [hm2] <;> rfl) ?_
  refine Pk.slot 7 (v := .int .i64 110) rfl (by rw [hn2] <;> rfl) ?_
  refine Pk.slot 6 (v := .slice q29.1 0 q29.2.1) rfl (by rw [hnl] <;> rfl) ?_
  refine Pk.slot 4 (v := .slice q24.1 3 q24.2.1) rfl (by rw [hml] <;> rfl) ?_
  refine pk_val rfl rfl rfl (val_move rfl rfl) ?_
  refine pk_val rfl rfl rfl (val_neq rfl rfl rfl) ?_
  refine pk_val rfl rfl rfl (val_move rfl rfl) ?_
  refine pk_guard_yes rfl rfl rfl ?_
  refine pk_val rfl rfl rfl (val_move rfl rfl) ?_
  refine pk_guard_yes rfl rfl rfl ?_
  refine pk_val rfl rfl rfl (val_neq rfl rfl rfl) ?_
  refine pk_val rfl rfl rfl (val_pick rfl rfl rfl rfl) ?_
  refine pk_val rfl rfl rfl (val_move rfl rfl) ?_
  refine pk_guard_yes rfl rfl rfl ?_
  refine pk_val rfl rfl rfl (val_move rfl rfl) ?_
  refine pk_guard_yes rfl rfl rfl ?_
  refine pk_val rfl rfl rfl (val_neq rfl rfl rfl) ?_
  refine pk_val rfl rfl rfl (val_pick rfl rfl rfl rfl) ?_
  refine pk_val rfl rfl rfl (val_move rfl rfl) ?_
  refine pk_guard_yes rfl rfl rfl ?_
  refine pk_val rfl rfl rfl (val_move rfl rfl) ?_
  refine pk_guard_yes rfl rfl rfl ?_
  refine pk_val rfl rfl rfl (val_len_slice rfl Try.underlying23 rfl) ?_
  refine pk_guard_yes rfl rfl rfl ?_
  refine pk_val rfl rfl rfl (val_neq rfl rfl rfl) ?_
  refine pk_val rfl rfl rfl (val_pick rfl rfl rfl rfl) ?_
  refine pk_val rfl rfl rfl (val_move rfl rfl) ?_
  refine pk_guard_yes rfl rfl rfl ?_
  refine pk_val rfl rfl rfl (val_move rfl rfl) ?_
  refine pk_guard_yes rfl rfl rfl ?_
  refine pk_val rfl rfl rfl (val_len_slice rfl Try.underlying25 rfl) ?_
  refine pk_guard_yes rfl rfl rfl ?_
  refine pk_val rfl rfl rfl (val_neq rfl rfl rfl) ?_
  refine pk_val rfl rfl rfl (val_pick rfl rfl rfl rfl) ?_
  refine pk_val rfl rfl rfl (val_move rfl rfl) ?_
  refine pk_guard_yes rfl rfl rfl ?_
  refine pk_val rfl rfl rfl (val_move rfl rfl) ?_
  refine pk_guard_yes rfl rfl rfl ?_
  refine pk_val rfl rfl rfl (val_indexAddr rfl Try.underlying25 2 (by kernel_rfl) rfl rfl 0 rfl (by decide) (Ent.pure hw0)) ?_
  refine pk_guard_yes rfl rfl rfl ?_
  refine pk_val rfl rfl rfl (val_loads (vs := [.string sC, .int .u64 131072]) rfl Try.underlying33 rfl (by kernel_rfl) rfl (Ent.pure hw0) ((Ent.own 6 rfl).rds (fun j v h => by rw [hn0]; simpa using h))) ?_
  refine pk_guard_yes rfl rfl rfl ?_
  refine pk_val rfl rfl rfl (val_build (z := [.string ⟨#[]⟩, .int .u64 0]) [(0, 1), (1, 1)] rfl Try.underlying33 (by kernel_rfl) (by kernel_rfl) rfl rfl rfl) ?_
  refine pk_guard_yes rfl rfl rfl ?_
  refine pk_val rfl rfl rfl (val_pair_neq (p := (sC, 131072)) (q := (sC, 131072)) pairOk_want (by kernel_rfl) rfl rfl rfl) ?_
  refine pk_val rfl rfl rfl (val_pick rfl rfl rfl rfl) ?_
  refine pk_val rfl rfl rfl (val_move rfl rfl) ?_
  refine pk_guard_yes rfl rfl rfl ?_
  refine pk_val rfl rfl rfl (val_move rfl rfl) ?_
  refine pk_guard_yes rfl rfl rfl ?_
  refine pk_val rfl rfl rfl (val_len_slice rfl Try.underlying23 rfl) ?_
  refine pk_guard_yes rfl rfl rfl ?_
  refine pk_val rfl rfl rfl (val_neq rfl rfl rfl) ?_
  refine pk_val rfl rfl rfl (val_pick rfl rfl rfl rfl) ?_
  refine pk_nil ?_
  refine thru_on ?_
  refine pk_cond_f rfl ?_
  refine pk_skip ?_
  refine thru_on ?_
  refine pk_seq ?_
  refine pk_region ?_
  have hg2 : (q24.2.2.getD 2 dV).a = kD := by rw [← avs_getD (by omega), hm1]; rfl
  have hg1 : (q24.2.2.getD 1 dV).a = kB := by rw [← avs_getD (by omega), hm1]; rfl
  have hg0 : (q24.2.2.getD 0 dV).a = kA := by rw [← avs_getD (by omega), hm1]; rfl
  refine pk_val rfl rfl rfl (val_move rfl rfl) ?_
  refine pk_eff (eff_call1 rfl ⟨_, Try.func31, by kernel_rfl, rfl⟩ rfl (fun E w s => fix_Cut_c (vs := V3 ⟨b8, 0, none⟩ ⟨b10, 0, none⟩) s (verIn3 (Ent.own 7 rfl) (Ent.own 9 rfl) (Ent.own 8 rfl)))) rfl rfl rfl (fun _ _ => ?_)
  refine Pk.slot 65 (v := .bool false) rfl (congrArg Value.bool known_cut) ?_
  refine pk_val rfl rfl rfl (val_not rfl rfl) ?_
  refine pk_val rfl rfl rfl (val_move rfl rfl) ?_
  refine pk_guard_yes rfl rfl rfl ?_
  refine pk_val rfl rfl rfl (val_move rfl rfl) ?_
  refine Pk.slot 4 (v := .slice q24.1 q24.2.2.length q24.2.1) rfl (by rw [hml] <;> rfl) ?_
  refine Pk.slot 68 (v := .slice q24.1 q24.2.2.length q24.2.1) rfl (by rw [hml] <;> rfl) ?_
  refine pk_guard_yes rfl rfl rfl ?_
  refine pk_eff (eff_call1 rfl ⟨_, Try.func31, by kernel_rfl, rfl⟩ rfl (fun E w s => fix_Cut_c (vs := q24.2.2) s (verIn_own 2 3 rfl rfl (by omega) hkl))) rfl rfl rfl (fun _ _ => ?_)
  refine Pk.slot 69 (v := .bool true) rfl (congrArg Value.bool (by rw [hm1]; exact known_cut2)) ?_
  refine pk_val rfl rfl rfl (val_pick rfl rfl rfl rfl) ?_
  refine pk_val rfl rfl rfl (val_move rfl rfl) ?_
  refine pk_guard_yes rfl rfl rfl ?_
  refine pk_val rfl rfl rfl (val_move rfl rfl) ?_
  refine pk_guard_yes rfl rfl rfl ?_
  refine pk_eff (eff_call1 rfl ⟨_, Try.func28, by kernel_rfl, rfl⟩ rfl (fun E w s => fix_Formed_c (vs := V3 ⟨b8, 0, none⟩ ⟨b10, 0, none⟩) s (verIn3 (Ent.own 7 rfl) (Ent.own 9 rfl) (Ent.own 8 rfl)))) rfl rfl rfl (fun _ _ => ?_)
  refine Pk.slot 73 (v := .bool true) rfl (congrArg Value.bool known_formed) ?_
  refine pk_val rfl rfl rfl (val_pick rfl rfl rfl rfl) ?_
  refine pk_val rfl rfl rfl (val_move rfl rfl) ?_
  refine pk_guard_yes rfl rfl rfl ?_
  refine pk_eff (eff_call1 rfl ⟨_, Try.func28, by kernel_rfl, rfl⟩ rfl (fun E w s => fix_Formed_c (vs := []) s verIn0)) rfl rfl rfl (fun _ _ => ?_)
  refine Pk.slot 76 (v := .bool false) rfl (congrArg Value.bool known_formed0) ?_
  refine pk_guard_yes rfl rfl rfl ?_
  refine pk_val rfl rfl rfl (val_not rfl rfl) ?_
  refine pk_val rfl rfl rfl (val_pick rfl rfl rfl rfl) ?_
  refine pk_val rfl rfl rfl (val_move rfl rfl) ?_
  refine pk_guard_yes rfl rfl rfl ?_
  refine pk_val rfl rfl rfl (val_move rfl rfl) ?_
  refine pk_guard_yes rfl rfl rfl ?_
  refine pk_val rfl rfl rfl (val_indexAddr rfl Try.underlying23 4 (by kernel_rfl) rfl rfl 2 rfl (by omega) (Ent.pure hm0)) ?_
  refine pk_guard_yes rfl rfl rfl ?_
  refine pk_val rfl rfl rfl (val_fieldAddr rfl Try.underlying36 1 1 (by kernel_rfl) (by decide) rfl (Ent.pure (by first | rfl | assumption))) ?_
  refine pk_guard_yes rfl rfl rfl ?_
  refine pk_val rfl rfl rfl (val_load rfl Try.underlying31 rfl rfl ((Ent.own 2 rfl).rd ((get_flat (k := 2) Ver.cells_len dV (by omega) (by decide)).trans rfl))) ?_
  refine Pk.slot 83 (v := .int .u64 131072) rfl (by rw [hg2]; rfl) ?_
  refine pk_guard_yes rfl rfl rfl ?_
  refine pk_val rfl rfl rfl (val_eql rfl rfl rfl) ?_
  refine pk_val rfl rfl rfl (val_pick rfl rfl rfl rfl) ?_
  refine pk_val rfl rfl rfl (val_move rfl rfl) ?_
  refine pk_guard_yes rfl rfl rfl ?_
  refine pk_val rfl rfl rfl (val_move rfl rfl) ?_
  refine pk_guard_yes rfl rfl rfl ?_
  refine pk_val rfl rfl rfl (val_indexAddr rfl Try.underlying23 4 (by kernel_rfl) rfl rfl 1 rfl (by omega) (Ent.pure hm0)) ?_
  refine pk_guard_yes rfl rfl rfl ?_
  refine pk_val rfl rfl rfl (val_fieldAddr rfl Try.underlying36 1 1 (by kernel_rfl) (by decide) rfl (Ent.pure (by first | rfl | assumption))) ?_
  refine pk_guard_yes rfl rfl rfl ?_
  refine pk_val rfl rfl rfl (val_load rfl Try.underlying31 rfl rfl ((Ent.own 2 rfl).rd ((get_flat (k := 1) Ver.cells_len dV (by omega) (by decide)).trans rfl))) ?_
  refine Pk.slot 90 (v := .int .u64 131072) rfl (by rw [hg1]; rfl) ?_
  refine pk_guard_yes rfl rfl rfl ?_
  refine pk_val rfl rfl rfl (val_eql rfl rfl rfl) ?_
  refine pk_val rfl rfl rfl (val_pick rfl rfl rfl rfl) ?_
  refine pk_val rfl rfl rfl (val_move rfl rfl) ?_
  refine pk_guard_yes rfl rfl rfl ?_
  refine pk_val rfl rfl rfl (val_move rfl rfl) ?_
  refine pk_guard_yes rfl rfl rfl ?_
  refine pk_val rfl rfl rfl (val_indexAddr rfl Try.underlying23 4 (by kernel_rfl) rfl rfl 0 rfl (by omega) (Ent.pure hm0)) ?_
  refine pk_guard_yes rfl rfl rfl ?_
  refine pk_val rfl rfl rfl (val_fieldAddr rfl Try.underlying36 1 1 (by kernel_rfl) (by decide) rfl (Ent.pure (by first | rfl | assumption))) ?_
  refine pk_guard_yes rfl rfl rfl ?_
  refine pk_val rfl rfl rfl (val_load rfl Try.underlying31 rfl rfl ((Ent.own 2 rfl).rd ((get_flat (k := 0) Ver.cells_len dV (by omega) (by decide)).trans rfl))) ?_
  refine Pk.slot 97 (v := .int .u64 65536) rfl (by rw [hg0]; rfl) ?_
  refine pk_guard_yes rfl rfl rfl ?_
  refine pk_val rfl rfl rfl (val_eql rfl rfl rfl) ?_
  refine pk_val rfl rfl rfl (val_pick rfl rfl rfl rfl) ?_
  refine pk_val rfl rfl rfl (val_assign rfl rfl) ?_
  refine pk_nil ?_
  refine thru_on ?_
  refine pk_ret ?_
  refine ret1 rfl rfl fun w s => ⟨rfl, s.to (fun _ h => Sats.keep [false, false, false, false, false, false, false, false, false, false] h)⟩
end Go.Proofs.Ytdpckendkklfdaa
