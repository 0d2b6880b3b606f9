/- The walks of package hybrid, second part: filter, filters, Formed. -/
import Derived.Test.YtdpckendkklfdaaGreatHyA
import Derived.Test.YtdpckendkklfdaaGreatFixC
set_option linter.unusedVariables false
set_option linter.unusedSimpArgs false
set_option maxRecDepth 100000
namespace Go.Proofs.YtdpckendkklfdaaGreat
open Go.RowKit Go.Proofs.Eng
/-- a slim version's filter: may it be, is there one, what is told of it -/
def filOk (y : Sx) : Bool := if y.id = 0 then decide (y.val = ⟨#[]⟩) && decide (y.f.length = 0) else decide (65536 ≤ y.id) && readOk y.f && hasT (y.f.drop 5) (rdB y.f) (rdH y.f) y.key
def filHas (y : Sx) : Bool := filOk y && decide (y.id ≠ 0)
abbrev Fz := Sx × (Nat × Option Addr × Nat)
def dFz : Fz := (sx0, 0, none, 0)
def Fz.fi (z : Fz) : Fi := ⟨rdB z.1.f, rdH z.1.f, z.1.f.drop 5, z.2.2.1, z.2.2.2⟩
def filP (z : Fz) : Value := if filHas z.1 = true then ptr (some ⟨z.2.1, 0, none⟩) 0 else .pointer none
def filC (z : Fz) : Ch := if filHas z.1 = true then fiCh z.2.1 z.fi else own none 0 0 0 1 []
theorem filP_one (z : Fz) : (filP z).oneCell' = true := by unfold filP; split <;> rfl
theorem filP_cells (z : Fz) : (filP z).cells = #[filP z] := by unfold filP; split <;> rfl
theorem filC_no {z : Fz} {L : List Ch} {h : Hp} (e : filHas z.1 = false) (s : Sats L h) : Sats (filC z :: L) h := by
  rw [filC, e]; exact Sats.nilrow s
theorem filP_no {z : Fz} (e : filHas z.1 = false) : filP z = .pointer none := by rw [filP, e]; rfl
theorem filP_yes {z : Fz} (e : filHas z.1 = true) : filP z = ptr (some ⟨z.2.1, 0, none⟩) 0 := by rw [filP, if_pos e]
theorem filOk_zero {y : Sx} (h : y.id = 0) : filOk y = (decide (y.val = ⟨#[]⟩) && decide (y.f.length = 0)) := by rw [filOk, if_pos h]
theorem filOk_pos {y : Sx} (h : ¬ y.id = 0) : filOk y = (decide (65536 ≤ y.id) && readOk y.f && hasT (y.f.drop 5) (rdB y.f) (rdH y.f) y.key) := by rw [filOk, if_neg h]
theorem filHas_no {y : Sx} (h : filOk y = false) : filHas y = false := by rw [filHas, h]; rfl
theorem filHas_zero {y : Sx} (h : y.id = 0) : filHas y = false := by rw [filHas, h]; simp
/-- slim versions that came in -/
structure SlIn (L : List Ch) (v : Sl) : Prop where
  row : Ent L (RdL v.A (v.a.f.map bV))
  byt : Byt v.a.f
  cap : v.a.f.length ≤ v.c
  len : v.a.f.length ≤ 1099511627776
  klen : v.a.key.size ≤ 4611686018427387904
theorem SlIn.cons {c : Ch} {L : List Ch} {v : Sl} (h : SlIn L v) : SlIn (c :: L) v := ⟨h.row.cons, h.byt, h.cap, h.len, h.klen⟩
theorem hybrid_filter_c {E w : World} {L : List Ch} {v : Sl} (s : Sat E w L) (hv : SlIn L v) :
    Calls Tryz.prog 156 #[.agg v.cells.toArray] w (GivesX E (fun q : Nat × Option Addr × Nat => .tuple #[filP (v.a, q), .bool (filOk v.a)]) (fun q => filC (v.a, q) :: L) (fun _ => True)) := by
  refine enter (vs := [_]) Tryz.func156 rfl Tryz.ntmps156 rfl s ?_
  refine pk_seq ?_
  refine pk_region ?_
  refine pk_eff (eff_box rfl rfl rfl) rfl rfl rfl (fun b1 _ => ?_)
  refine pk_val rfl rfl rfl (val_assign rfl rfl) ?_
  refine pk_val rfl rfl rfl (val_assign rfl rfl) ?_
  refine pk_nil ?_
  refine thru_on ?_
  refine pk_seq ?_
  refine pk_seq ?_
  refine pk_region ?_
  refine pk_val rfl rfl rfl (val_fieldAddr rfl Tryz.underlying30 1 1 (by kernel_rfl) (by decide) rfl (Ent.pure rfl)) ?_
  refine pk_val rfl rfl rfl (val_load (v := .int .u64 v.a.id) rfl Tryz.underlying23 rfl rfl ((Ent.own 0 rfl).rd rfl)) ?_
  refine pk_val rfl rfl rfl (val_eql rfl rfl rfl) ?_
  refine pk_nil ?_
  refine thru_on ?_
  refine pk_if rfl (fun h0 => ?_) (fun h0 => ?_)
  · skip
    have h0 : v.a.id = 0 := by omega
    refine pk_seq ?_
    refine pk_drawk (.val 0 (.val 1 (.val 2 (.val 3 (.val 4 (.val 5 (.val 6 (.val 7 (.val 8 (.val 9 (.val 10 .nil))))))))))) 1011 [] rfl (by kernel_rfl) (fun _ _ _ _ _ h => h) ?_
    refine ord_val rfl rfl rfl rfl (fun _ h => h) (val_fieldAddr rfl Tryz.underlying30 2 1 (by kernel_rfl) (by decide) rfl (Ent.pure rfl)) ?_
    refine ord_val rfl rfl rfl rfl (fun _ h => h) (val_load (v := .string v.a.val) rfl Tryz.underlying9 rfl rfl ((Ent.own 0 rfl).rd rfl)) ?_
    refine ord_val rfl rfl rfl rfl (fun _ h => h) (val_str_eql rfl rfl rfl) ?_
    refine ord_val rfl rfl rfl rfl (fun _ h => h) (val_move rfl rfl) ?_
    by_cases h2 : v.a.val = ⟨#[]⟩
    · skip
      refine Pk.slot 12 (v := .bool true) rfl (congrArg Value.bool (decide_eq_true h2)) ?_
      refine ord_val_yes rfl rfl rfl rfl rfl rfl (fun _ h => h) (val_fieldAddr rfl Tryz.underlying30 3 1 (by kernel_rfl) (by decide) rfl (Ent.pure rfl)) ?_
      refine ord_val_yes rfl rfl rfl rfl rfl rfl (fun _ h => h) (val_load (v := .slice v.A v.a.f.length v.c) rfl Tryz.underlying28 rfl rfl ((Ent.own 0 rfl).rd rfl)) ?_
      refine ord_val_yes rfl rfl rfl rfl rfl rfl (fun _ h => h) (val_len_slice rfl Tryz.underlying28 rfl) ?_
      refine ord_val_yes rfl rfl rfl rfl rfl rfl (fun _ h => h) (val_eql rfl rfl rfl) ?_
      refine ord_val rfl rfl rfl rfl (fun _ h => h) (val_pick rfl rfl rfl rfl) ?_
      refine ord_val rfl rfl rfl rfl (fun _ h => h) (val_assign rfl rfl) ?_
      refine ord_val rfl rfl rfl rfl (fun _ h => h) (val_assign rfl rfl) ?_
      refine ord_nil ?_
      refine thru_on ?_
      refine pk_ret ?_
      refine thru_ret ?_
      refine ret2 rfl rfl rfl fun w s => ⟨(0, none, 0), trivial, ?_, s.to fun _ h => filC_no (z := (v.a, 0, none, 0)) (filHas_zero h0) (Sats.keep [false] h)⟩
      have e : filOk v.a = decide ((v.a.f.length : Int) = 0) := by
        rw [filOk_zero h0, decide_eq_true h2, Bool.true_and]
        by_cases e : v.a.f.length = 0 <;> simp [e]
      dsimp only; rw [filP_no (z := (v.a, 0, none, 0)) (filHas_zero h0), e]; rfl
    · skip
      refine Pk.slot 12 (v := .bool false) rfl (congrArg Value.bool (decide_eq_false h2)) ?_
      refine ord_val_no rfl rfl rfl rfl rfl rfl rfl (fun _ h => h) ?_
      refine ord_val_no rfl rfl rfl rfl rfl rfl rfl (fun _ h => h) ?_
      refine ord_val_no rfl rfl rfl rfl rfl rfl rfl (fun _ h => h) ?_
      refine ord_val_no rfl rfl rfl rfl rfl rfl rfl (fun _ h => h) ?_
      refine ord_val rfl rfl rfl rfl (fun _ h => h) (val_pick rfl rfl rfl rfl) ?_
      refine ord_val rfl rfl rfl rfl (fun _ h => h) (val_assign rfl rfl) ?_
      refine ord_val rfl rfl rfl rfl (fun _ h => h) (val_assign rfl rfl) ?_
      refine ord_nil ?_
      refine thru_on ?_
      refine pk_ret ?_
      refine thru_ret ?_
      have eno : filOk v.a = false := by rw [filOk_zero h0, decide_eq_false h2]; rfl
      refine ret2 rfl rfl rfl fun w s => ⟨(0, none, 0), trivial, ?_, s.to fun _ h => filC_no (z := (v.a, 0, none, 0)) (filHas_no eno) (Sats.keep [false] h)⟩
      dsimp only; rw [filP_no (z := (v.a, 0, none, 0)) (filHas_no eno), eno]; first | done | rfl
  · skip
    refine pk_skip ?_
    refine thru_on ?_
    have h0 : ¬ v.a.id = 0 := by omega
    refine pk_seq ?_
    refine pk_region ?_
    refine pk_val rfl rfl rfl (val_fieldAddr rfl Tryz.underlying30 3 1 (by kernel_rfl) (by decide) rfl (Ent.pure rfl)) ?_
    refine pk_val rfl rfl rfl (val_load (v := .slice v.A v.a.f.length v.c) rfl Tryz.underlying28 rfl rfl ((Ent.own 0 rfl).rd rfl)) ?_
    by_cases hrd : readOk v.a.f = true
    · skip
      refine pk_eff (eff_callx rfl ⟨_, Tryz.func204, by kernel_rfl, rfl⟩ rfl (fun E w s => bloom_Read_c s hv.row.cons hv.byt rfl hv.cap hv.len hrd)) rfl rfl rfl (fun q21 _ => ?_)
      refine pk_val rfl rfl rfl (val_move rfl rfl) ?_
      refine pk_val rfl rfl rfl (val_extract rfl rfl rfl) ?_
      refine pk_val rfl rfl rfl (val_extract rfl rfl rfl) ?_
      refine pk_val rfl rfl rfl (val_assign rfl rfl) ?_
      refine pk_val rfl rfl rfl (val_assign rfl rfl) ?_
      refine pk_nil ?_
      refine thru_on ?_
      refine pk_seq ?_
      refine pk_seq ?_
      refine pk_region ?_
      refine pk_val rfl rfl rfl (val_fieldAddr rfl Tryz.underlying30 1 1 (by kernel_rfl) (by decide) rfl (Ent.pure rfl)) ?_
      refine pk_val rfl rfl rfl (val_load (v := .int .u64 v.a.id) rfl Tryz.underlying23 rfl rfl ((Ent.own 1 rfl).rd rfl)) ?_
      refine pk_val rfl rfl rfl (val_lss rfl rfl rfl) ?_
      refine pk_val rfl rfl rfl (val_move rfl rfl) ?_
      by_cases hid : 65536 ≤ v.a.id
      · skip
        refine Pk.slot 27 (v := .bool false) rfl (congrArg Value.bool (decide_eq_false (by omega))) ?_
        refine pk_guard_yes rfl rfl rfl ?_
        refine pk_val rfl rfl rfl (val_move rfl rfl) ?_
        refine pk_guard_yes rfl rfl rfl ?_
        refine pk_val rfl rfl rfl (val_neq rfl rfl rfl) ?_
        refine pk_val rfl rfl rfl (val_pick rfl rfl rfl rfl) ?_
        refine pk_val rfl rfl rfl (val_move rfl rfl) ?_
        refine pk_guard_yes rfl rfl rfl ?_
        refine pk_val rfl rfl rfl (val_move rfl rfl) ?_
        refine pk_guard_yes rfl rfl rfl ?_
        refine pk_val rfl rfl rfl (val_fieldAddr rfl Tryz.underlying30 0 1 (by kernel_rfl) (by decide) rfl (Ent.pure rfl)) ?_
        refine pk_guard_yes rfl rfl rfl ?_
        refine pk_val rfl rfl rfl (val_load (v := .string v.a.key) rfl Tryz.underlying9 rfl rfl ((Ent.own 1 rfl).rd rfl)) ?_
        refine pk_guard_yes rfl rfl rfl ?_
        refine pk_eff (eff_call1 rfl ⟨_, Tryz.func75, by kernel_rfl, rfl⟩ rfl (fun E w s => bloom_Has_c (B := q21.1) (f := Fz.fi (v.a, q21)) s (readOk_fi hv.byt hrd _ _) (fi_in 0 rfl) hv.klen)) rfl rfl rfl (fun _ _ => ?_)
        refine pk_guard_yes rfl rfl rfl ?_
        refine pk_val rfl rfl rfl (val_not rfl rfl) ?_
        refine pk_val rfl rfl rfl (val_pick rfl rfl rfl rfl) ?_
        refine pk_nil ?_
        refine thru_on ?_
        refine pk_ifn rfl (fun h3 => ?_) (fun h3 => ?_)
        · skip
          refine pk_seq ?_
          refine pk_region ?_
          refine pk_val rfl rfl rfl (val_assign rfl rfl) ?_
          refine pk_val rfl rfl rfl (val_assign rfl rfl) ?_
          refine pk_nil ?_
          refine thru_on ?_
          refine pk_ret ?_
          refine thru_ret ?_
          have eno : filOk v.a = false := by rw [filOk_pos h0, hrd, show hasT (v.a.f.drop 5) (rdB v.a.f) (rdH v.a.f) v.a.key = false by simpa [Fz.fi] using h3]; simp
          refine ret2 rfl rfl rfl fun w s => ⟨(0, none, 0), trivial, ?_, s.to fun _ h => filC_no (z := (v.a, 0, none, 0)) (filHas_no eno) (Sats.keep [false, false] h)⟩
          dsimp only; rw [filP_no (z := (v.a, 0, none, 0)) (filHas_no eno), eno]; first | done | rfl
        · skip
          refine pk_skip ?_
          refine thru_on ?_
          refine pk_seq ?_
          refine pk_region ?_
          refine pk_val rfl rfl rfl (val_move rfl rfl) ?_
          refine pk_val rfl rfl rfl (val_assign rfl rfl) ?_
          refine pk_val rfl rfl rfl (val_assign rfl rfl) ?_
          refine pk_nil ?_
          refine thru_on ?_
          refine pk_ret ?_
          have hok : filOk v.a = true := by rw [filOk_pos h0, hrd, decide_eq_true hid, show hasT (v.a.f.drop 5) (rdB v.a.f) (rdH v.a.f) v.a.key = true by simpa [Fz.fi] using h3]; rfl
          have hhs : filHas v.a = true := by rw [filHas, hok]; simpa using h0
          refine ret2 rfl rfl rfl fun w s => ⟨q21, trivial, ?_, s.to fun _ h => ?_⟩
          · dsimp only; rw [filP_yes (z := (v.a, q21)) hhs, hok]; first | done | rfl
          · dsimp only; rw [filC, if_pos hhs]; exact (Sats.keep [true, false] h)
      · skip
        refine Pk.slot 27 (v := .bool true) rfl (congrArg Value.bool (decide_eq_true (by omega))) ?_
        refine pk_guard_no rfl rfl rfl rfl rfl rfl ?_
        refine pk_guard_no rfl rfl rfl rfl rfl rfl ?_
        refine pk_val rfl rfl rfl (val_pick rfl rfl rfl rfl) ?_
        refine pk_val rfl rfl rfl (val_move rfl rfl) ?_
        refine pk_guard_no rfl rfl rfl rfl rfl rfl ?_
        refine pk_guard_no rfl rfl rfl rfl rfl rfl ?_
        refine pk_guard_no rfl rfl rfl rfl rfl rfl ?_
        refine pk_guard_no rfl rfl rfl rfl rfl rfl ?_
        refine pk_guard_no rfl rfl rfl rfl rfl rfl ?_
        refine pk_val rfl rfl rfl (val_pick rfl rfl rfl rfl) ?_
        refine pk_nil ?_
        refine thru_on ?_
        refine pk_cond_t rfl ?_
        refine pk_seq ?_
        refine pk_region ?_
        refine pk_val rfl rfl rfl (val_assign rfl rfl) ?_
        refine pk_val rfl rfl rfl (val_assign rfl rfl) ?_
        refine pk_nil ?_
        refine thru_on ?_
        refine pk_ret ?_
        refine thru_ret ?_
        have eno : filOk v.a = false := by rw [filOk_pos h0, decide_eq_false hid]; rfl
        refine ret2 rfl rfl rfl fun w s => ⟨(0, none, 0), trivial, ?_, s.to fun _ h => filC_no (z := (v.a, 0, none, 0)) (filHas_no eno) (Sats.keep [false, false] h)⟩
        dsimp only; rw [filP_no (z := (v.a, 0, none, 0)) (filHas_no eno), eno]; first | done | rfl
    · skip
      refine pk_eff (eff_call1 rfl ⟨_, Tryz.func204, by kernel_rfl, rfl⟩ rfl (fun E w s => bloom_Read_no s hv.row.cons hv.byt rfl hv.cap hv.len (by simpa using hrd))) rfl rfl rfl (fun _ _ => ?_)
      refine pk_val rfl rfl rfl (val_move rfl rfl) ?_
      refine pk_val rfl rfl rfl (val_extract rfl rfl rfl) ?_
      refine pk_val rfl rfl rfl (val_extract rfl rfl rfl) ?_
      refine pk_val rfl rfl rfl (val_assign rfl rfl) ?_
      refine pk_val rfl rfl rfl (val_assign rfl rfl) ?_
      refine pk_nil ?_
      refine thru_on ?_
      refine pk_seq ?_
      refine pk_seq ?_
      refine pk_region ?_
      refine pk_val rfl rfl rfl (val_fieldAddr rfl Tryz.underlying30 1 1 (by kernel_rfl) (by decide) rfl (Ent.pure rfl)) ?_
      refine pk_val rfl rfl rfl (val_load (v := .int .u64 v.a.id) rfl Tryz.underlying23 rfl rfl ((Ent.own 0 rfl).rd rfl)) ?_
      refine pk_val rfl rfl rfl (val_lss rfl rfl rfl) ?_
      refine pk_val rfl rfl rfl (val_move rfl rfl) ?_
      by_cases hid : 65536 ≤ v.a.id
      · skip
        refine Pk.slot 27 (v := .bool false) rfl (congrArg Value.bool (decide_eq_false (by omega))) ?_
        refine pk_guard_yes rfl rfl rfl ?_
        refine pk_val rfl rfl rfl (val_move rfl rfl) ?_
        refine pk_guard_yes rfl rfl rfl ?_
        refine pk_val rfl rfl rfl (val_neq rfl rfl rfl) ?_
        refine pk_val rfl rfl rfl (val_pick rfl rfl rfl rfl) ?_
        refine pk_val rfl rfl rfl (val_move rfl rfl) ?_
        refine pk_guard_no rfl rfl rfl rfl rfl rfl ?_
        refine pk_guard_no rfl rfl rfl rfl rfl rfl ?_
        refine pk_guard_no rfl rfl rfl rfl rfl rfl ?_
        refine pk_guard_no rfl rfl rfl rfl rfl rfl ?_
        refine pk_guard_no rfl rfl rfl rfl rfl rfl ?_
        refine pk_val rfl rfl rfl (val_pick rfl rfl rfl rfl) ?_
        refine pk_nil ?_
        refine thru_on ?_
        refine pk_cond_t rfl ?_
        refine pk_seq ?_
        refine pk_region ?_
        refine pk_val rfl rfl rfl (val_assign rfl rfl) ?_
        refine pk_val rfl rfl rfl (val_assign rfl rfl) ?_
        refine pk_nil ?_
        refine thru_on ?_
        refine pk_ret ?_
        refine thru_ret ?_
        have eno : filOk v.a = false := by rw [filOk_pos h0, show readOk v.a.f = false by simpa using hrd]; simp
        refine ret2 rfl rfl rfl fun w s => ⟨(0, none, 0), trivial, ?_, s.to fun _ h => filC_no (z := (v.a, 0, none, 0)) (filHas_no eno) (Sats.keep [false] h)⟩
        dsimp only; rw [filP_no (z := (v.a, 0, none, 0)) (filHas_no eno), eno]; first | done | rfl
      · skip
        refine Pk.slot 27 (v := .bool true) rfl (congrArg Value.bool (decide_eq_true (by omega))) ?_
        refine pk_guard_no rfl rfl rfl rfl rfl rfl ?_
        refine pk_guard_no rfl rfl rfl rfl rfl rfl ?_
        refine pk_val rfl rfl rfl (val_pick rfl rfl rfl rfl) ?_
        refine pk_val rfl rfl rfl (val_move rfl rfl) ?_
        refine pk_guard_no rfl rfl rfl rfl rfl rfl ?_
        refine pk_guard_no rfl rfl rfl rfl rfl rfl ?_
        refine pk_guard_no rfl rfl rfl rfl rfl rfl ?_
        refine pk_guard_no rfl rfl rfl rfl rfl rfl ?_
        refine pk_guard_no rfl rfl rfl rfl rfl rfl ?_
        refine pk_val rfl rfl rfl (val_pick rfl rfl rfl rfl) ?_
        refine pk_nil ?_
        refine thru_on ?_
        refine pk_cond_t rfl ?_
        refine pk_seq ?_
        refine pk_region ?_
        refine pk_val rfl rfl rfl (val_assign rfl rfl) ?_
        refine pk_val rfl rfl rfl (val_assign rfl rfl) ?_
        refine pk_nil ?_
        refine thru_on ?_
        refine pk_ret ?_
        refine thru_ret ?_
        have eno : filOk v.a = false := by rw [filOk_pos h0, decide_eq_false hid]; rfl
        refine ret2 rfl rfl rfl fun w s => ⟨(0, none, 0), trivial, ?_, s.to fun _ h => filC_no (z := (v.a, 0, none, 0)) (filHas_no eno) (Sats.keep [false] h)⟩
        dsimp only; rw [filP_no (z := (v.a, 0, none, 0)) (filHas_no eno), eno]; first | done | rfl
def fxGo : List ByteArray → List Sx → Bool
  | _, [] => true
  | pre, v :: r => filOk v && !memB pre v.key && fxGo (pre ++ [v.key]) r
def formedX (l : List Sx) : Bool := decide (1 ≤ l.length) && decide (l.length ≤ 1024) && fxGo [] l
def sxs (vs : List Sl) : List Sx := vs.map (·.a)
structure SlimsIn (L : List Ch) (A : Option Addr) (vs : List Sl) : Prop where
  rows : Ent L (RdL A (vs.flatMap Sl.cells))
  each : ∀ v ∈ vs, SlIn L v
  len : vs.length ≤ 4611686018427387904
theorem SlimsIn.cons {c : Ch} {L : List Ch} {A : Option Addr} {vs : List Sl} (h : SlimsIn L A vs) : SlimsIn (c :: L) A vs := ⟨h.rows.cons, fun v hv => (h.each v hv).cons, h.len⟩
theorem sxs_take {vs : List Sl} {k : Nat} (h : k < vs.length) : (sxs vs).take (k + 1) = (sxs vs).take k ++ [(vs.getD k dSl).a] := by
  have : k < (sxs vs).length := by simpa [sxs] using h
  rw [List.take_succ_eq_append_getElem this]
  simp [sxs, h]
theorem sxs_drop {vs : List Sl} {k : Nat} (h : k < vs.length) : (sxs vs).drop k = (vs.getD k dSl).a :: (sxs vs).drop (k + 1) := by
  have : k < (sxs vs).length := by simpa [sxs] using h
  rw [List.drop_eq_getElem_cons this]
  simp [sxs, h]
structure FxInv (l : List Sx) (k : Nat) (l1 : List (ByteArray × Int)) (zs : List Fz) : Prop where
  le : k ≤ l.length
  keys : ∀ s, aget l1 s 0 = if memB ((l.take k).map (·.key)) s then 1 else 0
  zs : zs.map (·.1) = l.take k
  go : fxGo [] l = fxGo ((l.take k).map (·.key)) (l.drop k)
theorem FxInv.start (l : List Sx) : FxInv l 0 [] [] := ⟨Nat.zero_le _, fun s => by simp [aget, memB], by simp, by simp⟩
theorem FxInv.zlen {l : List Sx} {k : Nat} {l1 : List (ByteArray × Int)} {zs : List Fz} (h : FxInv l k l1 zs) : zs.length = k := by
  have := congrArg List.length h.zs
  have := h.le
  simp at *; omega
theorem FxInv.next {vs : List Sl} {k : Nat} {l1 : List (ByteArray × Int)} {zs : List Fz} {q : Nat × Option Addr × Nat} (h : FxInv (sxs vs) k l1 zs) (hk : k < vs.length) (hm : filOk (vs.getD k dSl).a = true) (hn : memB (((sxs vs).take k).map (·.key)) (vs.getD k dSl).a.key = false) :
    FxInv (sxs vs) (k + 1) (aput l1 (vs.getD k dSl).a.key (aget l1 (vs.getD k dSl).a.key 0 + 1)) (zs ++ [((vs.getD k dSl).a, q)]) := by
  refine ⟨by simp [sxs]; omega, fun s => ?_, ?_, ?_⟩
  · rw [sxs_take hk, List.map_append, List.map_cons, List.map_nil, memB_snoc]
    by_cases e : s = (vs.getD k dSl).a.key
    · subst e
      rw [aget_aput_same, h.keys, hn]
      simp
    · rw [aget_aput_other _ _ _ e, h.keys]
      have : ¬ (vs.getD k dSl).a.key = s := fun h => e h.symm
      simp only [this, decide_false, Bool.or_false]
  · rw [sxs_take hk, List.map_append, h.zs]; rfl
  · rw [h.go, sxs_drop hk, fxGo, hm, hn, sxs_take hk]
    simp
theorem FxInv.no_ok {vs : List Sl} {k : Nat} {l1 : List (ByteArray × Int)} {zs : List Fz} (h : FxInv (sxs vs) k l1 zs) (hk : k < vs.length) (hm : filOk (vs.getD k dSl).a = false) : formedX (sxs vs) = false := by
  unfold formedX
  rw [h.go, sxs_drop hk, fxGo, hm]; simp
theorem FxInv.no_key {vs : List Sl} {k : Nat} {l1 : List (ByteArray × Int)} {zs : List Fz} (h : FxInv (sxs vs) k l1 zs) (hk : k < vs.length) (hm : memB (((sxs vs).take k).map (·.key)) (vs.getD k dSl).a.key = true) : formedX (sxs vs) = false := by
  unfold formedX
  rw [h.go, sxs_drop hk, fxGo, hm]; simp
theorem FxInv.done {l : List Sx} {k : Nat} {l1 : List (ByteArray × Int)} {zs : List Fz} (h : FxInv l k l1 zs) (hk : l.length ≤ k) : fxGo [] l = true ∧ zs.map (·.1) = l := by
  have : k = l.length := by have := h.le; omega
  refine ⟨by rw [h.go, this]; simp [fxGo], by rw [h.zs, this]; simp⟩
def fo (l : List Sx) (zs : List Fz) : List Fz := if formedX l = true then zs else []
abbrev Fqs := Option Addr × Nat × List Fz
theorem zs_map (l : List Sx) : (l.map (fun x => ((x, 0, none, 0) : Fz))).map (·.1) = l := by
  rw [List.map_map]; exact (List.map_congr_left (fun _ _ => rfl)).trans (List.map_id l)
theorem hybrid_filters_c {E w : World} {L : List Ch} {A : Option Addr} {c : Nat} {vs : List Sl} (s : Sat E w L) (hV : SlimsIn L A vs) :
    Calls Tryz.prog 74 #[.slice A vs.length c] w (GivesX E (fun q : Fqs => .tuple #[.slice q.1 (fo (sxs vs) q.2.2).length q.2.1, .bool (formedX (sxs vs))]) (fun q => own q.1 (fo (sxs vs) q.2.2).length q.2.1 140 1 ((fo (sxs vs) q.2.2).map filP) :: Eng.cat ((fo (sxs vs) q.2.2).map filC) :: L) (fun q => q.2.2.map (·.1) = sxs vs)) := by
  refine enter (vs := [_]) Tryz.func74 rfl Tryz.ntmps74 rfl s ?_
  refine pk_seq ?_
  refine pk_region ?_
  refine pk_val rfl rfl rfl (val_assign rfl rfl) ?_
  refine pk_val rfl rfl rfl (val_assign rfl rfl) ?_
  refine pk_nil ?_
  refine thru_on ?_
  refine pk_seq ?_
  refine pk_seq ?_
  refine pk_region ?_
  refine pk_val rfl rfl rfl (val_move rfl rfl) ?_
  refine pk_val rfl rfl rfl (val_len_slice rfl Tryz.underlying43 rfl) ?_
  refine pk_val rfl rfl rfl (val_lss rfl rfl rfl) ?_
  refine pk_val rfl rfl rfl (val_move rfl rfl) ?_
  by_cases h0 : vs.length < 1
  · skip
    refine Pk.slot 13 (v := .bool true) rfl (by simp <;> omega) ?_
    refine pk_guard_no rfl rfl rfl rfl rfl rfl ?_
    refine pk_guard_no rfl rfl rfl rfl rfl rfl ?_
    refine pk_guard_no rfl rfl rfl rfl rfl rfl ?_
    refine pk_val rfl rfl rfl (val_pick rfl rfl rfl rfl) ?_
    refine pk_nil ?_
    refine thru_on ?_
    refine pk_cond_t rfl ?_
    refine pk_seq ?_
    refine pk_region ?_
    refine pk_val rfl rfl rfl (val_assign rfl rfl) ?_
    refine pk_val rfl rfl rfl (val_assign rfl rfl) ?_
    refine pk_nil ?_
    refine thru_on ?_
    refine pk_ret ?_
    refine thru_ret ?_
    have eno : formedX (sxs vs) = false := by unfold formedX; simp [sxs] <;> omega
    refine ret2 rfl rfl rfl fun w s => ⟨(none, 0, (sxs vs).map (fun x => ((x, 0, none, 0) : Fz))), zs_map _, ?_, s.to fun _ h => ?_⟩
    · dsimp only; rw [fo, eno]; rfl
    · have e : fo (sxs vs) ((sxs vs).map (fun x => ((x, 0, none, 0) : Fz))) = [] := by rw [fo, eno]; rfl
      simp only [e]; exact Sats.nilrow (Sats.cat_nil (h))
  · skip
    refine Pk.slot 13 (v := .bool false) rfl (by simp <;> omega) ?_
    refine pk_guard_yes rfl rfl rfl ?_
    refine pk_val rfl rfl rfl (val_move rfl rfl) ?_
    refine pk_guard_yes rfl rfl rfl ?_
    refine pk_val rfl rfl rfl (val_len_slice rfl Tryz.underlying43 rfl) ?_
    refine pk_guard_yes rfl rfl rfl ?_
    refine pk_val rfl rfl rfl (val_gtr rfl rfl rfl) ?_
    refine pk_val rfl rfl rfl (val_pick rfl rfl rfl rfl) ?_
    refine pk_nil ?_
    refine thru_on ?_
    refine pk_if rfl (fun h1 => ?_) (fun h1 => ?_)
    · skip
      refine pk_seq ?_
      refine pk_region ?_
      refine pk_val rfl rfl rfl (val_assign rfl rfl) ?_
      refine pk_val rfl rfl rfl (val_assign rfl rfl) ?_
      refine pk_nil ?_
      refine thru_on ?_
      refine pk_ret ?_
      refine thru_ret ?_
      have eno : formedX (sxs vs) = false := by unfold formedX; simp [sxs] <;> omega
      refine ret2 rfl rfl rfl fun w s => ⟨(none, 0, (sxs vs).map (fun x => ((x, 0, none, 0) : Fz))), zs_map _, ?_, s.to fun _ h => ?_⟩
      · dsimp only; rw [fo, eno]; rfl
      · have e : fo (sxs vs) ((sxs vs).map (fun x => ((x, 0, none, 0) : Fz))) = [] := by rw [fo, eno]; rfl
        simp only [e]; exact Sats.nilrow (Sats.cat_nil (h))
    · skip
      refine pk_skip ?_
      refine thru_on ?_
      refine Pk.nilrow 140 1 ?_
      refine Pk.heap (fun _ h => Sats.cat_nil (f := filC) h) ?_
      refine pk_seq ?_
      refine pk_region ?_
      refine pk_eff (eff_mapNew (encS) (encI) rfl) rfl rfl rfl (fun bm _ => ?_)
      refine pk_val rfl rfl rfl (val_assign rfl rfl) ?_
      refine pk_nil ?_
      refine thru_on ?_
      refine pk_seq ?_
      refine pk_region ?_
      refine pk_val rfl rfl rfl (val_assign rfl rfl) ?_
      refine pk_nil ?_
      refine thru_on ?_
      refine pk_seq ?_
      refine pk_seq ?_
      refine pk_region ?_
      refine pk_val rfl rfl rfl (val_move rfl rfl) ?_
      refine pk_val rfl rfl rfl (val_len_slice rfl Tryz.underlying43 rfl) ?_
      refine pk_val rfl rfl rfl (val_move rfl rfl) ?_
      refine pk_nil ?_
      refine thru_on ?_
      refine pk_block ?_
      refine pk_loop (α := Nat × List (ByteArray × Int) × Fqs) ((0, [], none, 0, [])) (fun y => [(0, .slice A vs.length c), (4, .map (some bm)), (5, .slice y.2.2.1 y.2.2.2.2.length y.2.2.2.1), (19, .slice A vs.length c), (20, .int .i64 (vs.length : Nat)), (21, .int .i64 (y.1 : Nat))]) (fun y => (Eng.cat (y.2.2.2.2.map filC)) :: (own y.2.2.1 y.2.2.2.2.length y.2.2.2.1 140 1 (y.2.2.2.2.map filP)) :: (mapc (some bm) encS encI y.2.1) :: L) (fun y => FxInv (sxs vs) y.1 y.2.1 y.2.2.2.2) (fun y => vs.length - y.1) ?_ ?_ ?_ ?_
      · (try dsimp only) <;> exact FxInv.start _
      · exact ⟨(Sub.cons rfl (by first | rfl | (congr 1; omega) | simp) (Sub.cons rfl (by first | rfl | (congr 1; omega) | simp) (Sub.cons rfl (by first | rfl | (congr 1; omega) | simp) (Sub.cons rfl (by first | rfl | (congr 1; omega) | simp) (Sub.cons rfl (by first | rfl | (congr 1; omega) | simp) (Sub.cons rfl (by first | rfl | (congr 1; omega) | simp) (Sub.nil _))))))), rfl⟩
      · exact (fun _ h => (Sats.pick 3 [1, 2, 0] rfl h :))
      rintro ⟨k, l1, q, d, zs⟩ hI
      dsimp only at hI ⊢
      have hlen := hV.len
      have hzl := hI.zlen
      refine pk_seq ?_
      refine pk_region ?_
      refine pk_val rfl rfl rfl (val_lss rfl rfl rfl) ?_
      refine pk_nil ?_
      refine thru_on ?_
      refine pk_seq ?_
      refine pk_if rfl (fun h2 => ?_) (fun h2 => ?_)
      · skip
        refine pk_skip ?_
        refine thru_on ?_
        have hk : k < vs.length := by omega
        refine Pk.tells (hV.cons.cons.cons.rows.some_of (by rw [flat_length Sl.cells_len]; omega)) fun hA => ?_
        have hmem := getD_mem dSl hk
        refine pk_seq ?_
        refine pk_block ?_
        refine pk_seq ?_
        refine pk_region ?_
        refine pk_val rfl rfl rfl (val_indexAddr rfl Tryz.underlying43 4 (by kernel_rfl) rfl rfl k rfl hk (Ent.pure hA)) ?_
        refine pk_val rfl rfl rfl (val_loads (vs := (vs.getD k dSl).cells) rfl Tryz.underlying30 rfl (by kernel_rfl) rfl (Ent.pure hA) (hV.cons.cons.cons.rows.rds (flat_rds Sl.cells_len dSl hk))) ?_
        refine pk_eff (eff_alloc (z := [.string ⟨#[]⟩, .int .u64 0, .string ⟨#[]⟩, .slice none 0 0]) rfl (by kernel_rfl)) rfl rfl rfl (fun b7 _ => ?_)
        refine pk_eff0 (eff_storeW 0 rfl rfl rfl rfl rfl (by kernel_rfl) rfl rfl rfl) rfl rfl (fun _ _ => ?_)
        refine pk_nil ?_
        refine thru_on ?_
        refine pk_seq ?_
        refine pk_region ?_
        refine pk_val rfl rfl rfl (val_loads rfl Tryz.underlying30 rfl (by kernel_rfl) rfl (Ent.pure rfl) ((Ent.own 0 rfl).rds (fun j v h => by rw [Nat.zero_add j]; exact h))) ?_
        refine pk_eff (eff_callx rfl ⟨_, Tryz.func156, by kernel_rfl, rfl⟩ rfl (fun E w s => hybrid_filter_c s (hV.cons.cons.cons.cons.each _ hmem))) rfl rfl rfl (fun q27 _ => ?_)
        refine pk_val rfl rfl rfl (val_move rfl rfl) ?_
        refine pk_val rfl rfl rfl (val_extract rfl rfl rfl) ?_
        refine pk_val rfl rfl rfl (val_extract rfl rfl rfl) ?_
        refine pk_val rfl rfl rfl (val_assign rfl rfl) ?_
        refine pk_val rfl rfl rfl (val_assign rfl rfl) ?_
        refine pk_nil ?_
        refine thru_on ?_
        refine pk_seq ?_
        refine pk_seq ?_
        refine pk_region ?_
        refine pk_val rfl rfl rfl (val_move rfl rfl) ?_
        refine pk_val rfl rfl rfl (val_fieldAddr rfl Tryz.underlying30 0 1 (by kernel_rfl) (by decide) rfl (Ent.pure rfl)) ?_
        refine pk_val rfl rfl rfl (val_load (v := .string (vs.getD k dSl).a.key) rfl Tryz.underlying9 rfl rfl ((Ent.own 1 rfl).rd rfl)) ?_
        refine pk_val rfl rfl rfl (val_lookup (0) rfl Tryz.underlying249 (keyOk_string Tryz.underlying9) (by kernel_rfl) rfl rfl rfl (Ent.map 4 rfl)) ?_
        refine pk_val rfl rfl rfl (val_add rfl rfl rfl (by rw [hI.keys]; split <;> omega)) ?_
        refine pk_eff0 (eff_mapUpdate 4 (aget l1 (vs.getD k dSl).a.key 0 + 1) rfl Tryz.underlying249 (keyOk_string Tryz.underlying9) rfl rfl rfl rfl) rfl rfl (fun _ _ => ?_)
        refine pk_nil ?_
        refine thru_on ?_
        refine pk_seq ?_
        refine pk_region ?_
        refine pk_val rfl rfl rfl (val_move rfl rfl) ?_
        refine pk_val rfl rfl rfl (val_not rfl rfl) ?_
        refine pk_val rfl rfl rfl (val_move rfl rfl) ?_
        by_cases hm : filOk (vs.getD k dSl).a = true
        · skip
          refine Pk.slot 37 (v := .bool false) rfl (by rw [hm]; rfl) ?_
          refine pk_guard_yes rfl rfl rfl ?_
          refine pk_val rfl rfl rfl (val_move rfl rfl) ?_
          refine pk_guard_yes rfl rfl rfl ?_
          refine pk_val rfl rfl rfl (val_fieldAddr rfl Tryz.underlying30 0 1 (by kernel_rfl) (by decide) rfl (Ent.pure rfl)) ?_
          refine pk_guard_yes rfl rfl rfl ?_
          refine pk_val rfl rfl rfl (val_load (v := .string (vs.getD k dSl).a.key) rfl Tryz.underlying9 rfl rfl ((Ent.own 1 rfl).rd rfl)) ?_
          refine pk_guard_yes rfl rfl rfl ?_
          refine pk_val rfl rfl rfl (val_lookup (0) rfl Tryz.underlying249 (keyOk_string Tryz.underlying9) (by kernel_rfl) rfl rfl rfl (Ent.map 4 rfl)) ?_
          refine pk_guard_yes rfl rfl rfl ?_
          refine pk_val rfl rfl rfl (val_gtr rfl rfl rfl) ?_
          refine pk_val rfl rfl rfl (val_pick rfl rfl rfl rfl) ?_
          refine pk_nil ?_
          refine thru_on ?_
          refine pk_if rfl (fun h5 => ?_) (fun h5 => ?_)
          · skip
            have hB : memB (((sxs vs).take k).map (·.key)) (vs.getD k dSl).a.key = true := by
              rw [aget_aput_same, hI.keys] at h5
              split at h5
              · assumption
              · simp at h5
            refine pk_seq ?_
            refine pk_region ?_
            refine pk_val rfl rfl rfl (val_assign rfl rfl) ?_
            refine pk_val rfl rfl rfl (val_assign rfl rfl) ?_
            refine pk_nil ?_
            refine thru_on ?_
            refine pk_ret ?_
            refine thru_ret ?_
            refine in_ret ?_
            refine thru_ret ?_
            refine thru_ret ?_
            refine in_ret ?_
            refine thru_ret ?_
            have eno : formedX (sxs vs) = false := hI.no_key hk hB
            refine ret2 rfl rfl rfl fun w s => ⟨(none, 0, (sxs vs).map (fun x => ((x, 0, none, 0) : Fz))), zs_map _, ?_, s.to fun _ h => ?_⟩
            · dsimp only; rw [fo, eno]; rfl
            · have e : fo (sxs vs) ((sxs vs).map (fun x => ((x, 0, none, 0) : Fz))) = [] := by rw [fo, eno]; rfl
              simp only [e]; exact Sats.nilrow (Sats.cat_nil (Sats.keep [false, false, false, false, false] h))
          · skip
            refine pk_skip ?_
            refine thru_on ?_
            have hN : memB (((sxs vs).take k).map (·.key)) (vs.getD k dSl).a.key = false := by
              rw [aget_aput_same, hI.keys] at h5
              split at h5
              · simp at h5
              · rename_i hb; simpa using hb
            refine pk_region ?_
            refine pk_val rfl rfl rfl (val_move rfl rfl) ?_
            refine pk_val rfl rfl rfl (val_move rfl rfl) ?_
            refine pk_eff (eff_buildSlice (us := [filP ((vs.getD k dSl).a, q27)]) (cs := [filP ((vs.getD k dSl).a, q27)]) (len := 1) (sz := 1) (z := #[.pointer none]) rfl Tryz.underlying150 (by kernel_rfl) rfl rfl rfl (by decide) (by decide) (by simp [filP_cells]) (by simp [filP_cells])) rfl rfl rfl (fun b46 _ => ?_)
            refine pk_eff (eff_append1 (sz := 1) (bytes := 8) (z := .pointer none) 4 rfl Tryz.underlying150 (by kernel_rfl) rfl (by decide) (by decide) rfl rfl rfl (Ent.own 0 rfl) (by simp) rfl (by simp [filP_one]) (by omega)) rfl rfl rfl (fun q47 _ => ?_)
            refine pk_val rfl rfl rfl (val_assign rfl rfl) ?_
            refine pk_nil ?_
            refine in_on ?_
            refine thru_on ?_
            refine pk_region ?_
            refine pk_val rfl rfl rfl (val_add rfl rfl rfl (by omega)) ?_
            refine pk_val rfl rfl rfl (val_move rfl rfl) ?_
            refine pk_nil ?_
            refine thru_on ?_
            refine pk_next (x := ⟨k, l1, q, d, zs⟩) ((k + 1, aput l1 (vs.getD k dSl).a.key (aget l1 (vs.getD k dSl).a.key 0 + 1), q47.1, q47.2, zs ++ [((vs.getD k dSl).a, q27)])) ?_ ?_ ?_ ?_
            · (try dsimp only) <;> exact hI.next hk hm hN
            · (try dsimp only); exact (by omega)
            · exact ⟨(Sub.cons rfl (by first | rfl | (congr 1; omega) | simp) (Sub.cons rfl (by first | rfl | (congr 1; omega) | simp) (Sub.cons rfl (by first | rfl | (congr 1; omega) | simp) (Sub.cons rfl (by first | rfl | (congr 1; omega) | simp) (Sub.cons rfl (by first | rfl | (congr 1; omega) | simp) (Sub.cons rfl (by first | rfl | (congr 1; omega) | simp) (Sub.nil _))))))), rfl⟩
            · exact (fun _ h => Sats.cat_snoc (y := ((vs.getD k dSl).a, q27)) (by rw [List.map_append, List.length_append]; exact (Sats.keep [false, true, false, true, true, true] h)))
        · skip
          have hm' : filOk (vs.getD k dSl).a = false := by simpa using hm
          refine Pk.slot 37 (v := .bool true) rfl (by rw [hm']; rfl) ?_
          refine pk_guard_no rfl rfl rfl rfl rfl rfl ?_
          refine pk_guard_no rfl rfl rfl rfl rfl rfl ?_
          refine pk_guard_no rfl rfl rfl rfl rfl rfl ?_
          refine pk_guard_no rfl rfl rfl rfl rfl rfl ?_
          refine pk_guard_no rfl rfl rfl rfl rfl rfl ?_
          refine pk_val rfl rfl rfl (val_pick rfl rfl rfl rfl) ?_
          refine pk_nil ?_
          refine thru_on ?_
          refine pk_cond_t rfl ?_
          refine pk_seq ?_
          refine pk_region ?_
          refine pk_val rfl rfl rfl (val_assign rfl rfl) ?_
          refine pk_val rfl rfl rfl (val_assign rfl rfl) ?_
          refine pk_nil ?_
          refine thru_on ?_
          refine pk_ret ?_
          refine thru_ret ?_
          refine in_ret ?_
          refine thru_ret ?_
          refine thru_ret ?_
          refine in_ret ?_
          refine thru_ret ?_
          have eno : formedX (sxs vs) = false := hI.no_ok hk hm'
          refine ret2 rfl rfl rfl fun w s => ⟨(none, 0, (sxs vs).map (fun x => ((x, 0, none, 0) : Fz))), zs_map _, ?_, s.to fun _ h => ?_⟩
          · dsimp only; rw [fo, eno]; rfl
          · have e : fo (sxs vs) ((sxs vs).map (fun x => ((x, 0, none, 0) : Fz))) = [] := by rw [fo, eno]; rfl
            simp only [e]; exact Sats.nilrow (Sats.cat_nil (Sats.keep [false, false, false, false, false] h))
      · skip
        refine pk_exit ?_
        refine thru ?_
        refine thru ?_
        refine pk_here ?_
        refine thru_on ?_
        refine pk_seq ?_
        refine pk_region ?_
        refine pk_val rfl rfl rfl (val_move rfl rfl) ?_
        refine pk_val rfl rfl rfl (val_assign rfl rfl) ?_
        refine pk_val rfl rfl rfl (val_assign rfl rfl) ?_
        refine pk_nil ?_
        refine thru_on ?_
        refine pk_ret ?_
        have hd := hI.done (by simp [sxs]; omega)
        have eok : formedX (sxs vs) = true := by
          unfold formedX; rw [hd.1]; simp [sxs] <;> omega
        refine ret2 rfl rfl rfl fun w s => ⟨(q, d, zs), hd.2, ?_, s.to fun _ h => ?_⟩
        · dsimp only; rw [fo, eok]; rfl
        · have e : fo (sxs vs) zs = zs := by rw [fo, eok]; rfl
          simp only [e]; exact ((Sats.pick 3 [1, 0] rfl h :))
theorem hybrid_Formed_c {E w : World} {L : List Ch} {A : Option Addr} {c : Nat} {vs : List Sl} (s : Sat E w L) (hV : SlimsIn L A vs) :
    Calls Tryz.prog 19 #[.slice A vs.length c] w (Gives E (.bool (formedX (sxs vs))) L) := by
  refine enter (vs := [_]) Tryz.func19 rfl Tryz.ntmps19 rfl s ?_
  refine pk_seq ?_
  refine pk_region ?_
  refine pk_val rfl rfl rfl (val_assign rfl rfl) ?_
  refine pk_nil ?_
  refine thru_on ?_
  refine pk_seq ?_
  refine pk_region ?_
  refine pk_val rfl rfl rfl (val_move rfl rfl) ?_
  refine pk_eff (eff_callx rfl ⟨_, Tryz.func74, by kernel_rfl, rfl⟩ rfl (fun E w s => hybrid_filters_c s hV)) rfl rfl rfl (fun q7 hq7 => ?_)
  refine pk_val rfl rfl rfl (val_move rfl rfl) ?_
  refine pk_val rfl rfl rfl (val_extract rfl rfl rfl) ?_
  refine pk_val rfl rfl rfl (val_extract rfl rfl rfl) ?_
  refine pk_val rfl rfl rfl (val_assign rfl rfl) ?_
  refine pk_val rfl rfl rfl (val_assign rfl rfl) ?_
  refine pk_nil ?_
  refine thru_on ?_
  refine pk_seq ?_
  refine pk_region ?_
  refine pk_val rfl rfl rfl (val_move rfl rfl) ?_
  refine pk_val rfl rfl rfl (val_assign rfl rfl) ?_
  refine pk_nil ?_
  refine thru_on ?_
  refine pk_ret ?_
  refine ret1 rfl rfl fun w s => ⟨rfl, s.to (fun _ h => Sats.keep [false, false] h)⟩
end Go.Proofs.YtdpckendkklfdaaGreat
