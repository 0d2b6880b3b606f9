/- The walks of package store, fourth part: Commit, version, Latest, ByID, Last, Has. -/
import Derived.Test.YtdpckendkklfdaaGreatStC
set_option linter.unusedVariables false
set_option linter.unusedSimpArgs false
set_option maxRecDepth 100000
namespace Go.Proofs.YtdpckendkklfdaaGreat
open Go.RowKit Go.Proofs.Eng
/-- a version as it is told -/
def verA (a : Sa) (n : Nm) : Av := ⟨n.1, n.2, (aget a.vs n dHa).val, (aget a.vs n dHa).keys⟩
def botA (k : ByteArray) : Av := ⟨k, 0, ⟨#[]⟩, []⟩
def latA (a : Sa) (k : ByteArray) : Av := if ahas a.las k = true then verA a (k, aget a.las k 0) else botA k
def byA (a : Sa) (n : Nm) : Av := if ahas a.vs n = true then verA a n else botA ⟨#[]⟩
def byE (a : Sa) (n : Nm) : Int := if ahas a.vs n = true then 0 else 110
def keysC (v : Ver) : Ch := own v.A v.a.keys.length v.c 9 1 (v.a.keys.map .string)
theorem ver_klen {N : Nat} {a : Sa} (h : Small N a) (n : Nm) : (verA a n).keys.length ≤ 1024 := h.key n
theorem lat_klen {N : Nat} {a : Sa} (h : Small N a) (k : ByteArray) : (latA a k).keys.length ≤ 1024 := by
  unfold latA
  split
  · exact ver_klen h _
  · exact Nat.zero_le _
theorem st_ver (S : St) (n : Nm) : verA S.a n = ⟨n.1, n.2, (aget S.vs n dHd).val, (aget S.vs n dHd).keys⟩ := by
  rw [verA, ← st_vs]; rfl
theorem store_version_c {E w : World} {L : List Ch} {B N : Nat} {S : St} {n : Nm} (s : Sat E w (stCh B S :: L)) (hS : Small N S.a) :
    Calls Tryz.prog 110 #[ptr (some ⟨B, 0, none⟩) 0, encP .u64 n] w (GivesX E (fun q : Option Addr × Nat => .agg (⟨verA S.a n, q.1, q.2⟩ : Ver).cells.toArray) (fun q => keysC ⟨verA S.a n, q.1, q.2⟩ :: stCh B S :: L) (fun _ => True)) := by
  refine enter (vs := [_, _]) Tryz.func110 rfl Tryz.ntmps110 rfl s ?_
  refine Pk.pull 0 rfl ?_
  refine Pk.heap (fun _ h => st_open h) ?_
  have hkl : (aget S.vs n dHd).keys.length ≤ 1024 := by have := hS.key n; rw [← st_vs] at this; exact this
  refine pk_seq ?_
  refine pk_region ?_
  refine pk_eff (eff_box rfl rfl rfl) rfl rfl rfl (fun b3 _ => ?_)
  refine pk_eff (eff_alloc (z := [.string ⟨#[]⟩, .int .u64 0, .string ⟨#[]⟩, .slice none 0 0]) rfl (by kernel_rfl)) rfl rfl rfl (fun b4 _ => ?_)
  refine pk_nil ?_
  refine thru_on ?_
  refine pk_seq ?_
  refine pk_drawk (.val 0 (.val 1 (.val 2 (.val 3 (.val 4 (.val 5 (.eff 6 (.eff 7 .nil)))))))) 7 [] rfl (by kernel_rfl) (fun _ _ _ _ _ h => h) ?_
  refine ord_val rfl rfl rfl rfl (fun _ h => h) (val_move rfl rfl) ?_
  refine ord_val rfl rfl rfl rfl (fun _ h => h) (val_nilCheck rfl rfl (Ent.pure rfl)) ?_
  refine ord_val rfl rfl rfl rfl (fun _ h => h) (val_fieldAddr rfl Tryz.underlying164 0 1 (by kernel_rfl) (by decide) rfl (Ent.pure rfl)) ?_
  refine ord_val rfl rfl rfl rfl (fun _ h => h) (val_load rfl Tryz.underlying159 rfl rfl ((Ent.own 2 rfl).rd rfl)) ?_
  refine ord_val rfl rfl rfl rfl (fun _ h => h) (val_loads (vs := [.string n.1, .int .u64 n.2]) rfl Tryz.underlying185 rfl (by kernel_rfl) rfl (Ent.pure rfl) ((Ent.own 1 rfl).rds (fun j v h => by rw [Nat.zero_add j]; exact h))) ?_
  refine ord_val rfl rfl rfl rfl (fun _ h => h) (val_lookup (k := n) dHd rfl Tryz.underlying159 koN (by kernel_rfl) rfl rfl rfl (Ent.map 3 rfl)) ?_
  refine ord_eff (eff_alloc (z := [.string ⟨#[]⟩, .slice none 0 0, .int .i64 0]) rfl (by kernel_rfl)) rfl rfl rfl rfl (.inr fun _ _ => (fun _ h => (Sats.keep [false, true, true, true, true, true, true, true, true, true, true] h :))) (fun b5 _ => ?_)
  refine ord_eff0 (eff_storeW 0 rfl rfl rfl rfl rfl (by kernel_rfl) rfl rfl rfl) rfl rfl rfl (.inl rfl) (fun _ _ => ?_)
  refine ord_nil ?_
  refine thru_on ?_
  refine pk_seq ?_
  refine pk_drawk (.val 0 (.val 1 (.val 2 (.val 3 (.val 4 (.val 5 (.val 6 (.val 7 (.eff 8 (.val 9 (.eff 10 .nil))))))))))) 10 [] rfl (by kernel_rfl) (fun _ _ _ _ _ h => h) ?_
  refine ord_val rfl rfl rfl rfl (fun _ h => h) (val_fieldAddr rfl Tryz.underlying185 0 1 (by kernel_rfl) (by decide) rfl (Ent.pure rfl)) ?_
  refine ord_val rfl rfl rfl rfl (fun _ h => h) (val_load (v := .string n.1) rfl Tryz.underlying9 rfl rfl ((Ent.own 2 rfl).rd rfl)) ?_
  refine ord_val rfl rfl rfl rfl (fun _ h => h) (val_fieldAddr rfl Tryz.underlying185 1 1 (by kernel_rfl) (by decide) rfl (Ent.pure rfl)) ?_
  refine ord_val rfl rfl rfl rfl (fun _ h => h) (val_load (v := .int .u64 n.2) rfl Tryz.underlying23 rfl rfl ((Ent.own 2 rfl).rd rfl)) ?_
  refine ord_val rfl rfl rfl rfl (fun _ h => h) (val_fieldAddr rfl Tryz.underlying187 0 1 (by kernel_rfl) (by decide) rfl (Ent.pure rfl)) ?_
  refine ord_val rfl rfl rfl rfl (fun _ h => h) (val_load (v := .string (aget S.vs n dHd).val) rfl Tryz.underlying9 rfl rfl ((Ent.own 0 rfl).rd rfl)) ?_
  refine ord_val rfl rfl rfl rfl (fun _ h => h) (val_fieldAddr rfl Tryz.underlying187 1 1 (by kernel_rfl) (by decide) rfl (Ent.pure rfl)) ?_
  refine ord_val rfl rfl rfl rfl (fun _ h => h) (val_load (v := .slice (aget S.vs n dHd).A (aget S.vs n dHd).keys.length (aget S.vs n dHd).c) rfl Tryz.underlying24 rfl rfl ((Ent.own 0 rfl).rd rfl)) ?_
  refine ord_eff (eff_callx rfl ⟨_, Tryz.func109, by kernel_rfl, rfl⟩ rfl (fun E w s => slices_Clone_string_c s (ent_hd 5 rfl n) (by omega))) rfl rfl rfl rfl (.inr fun _ _ => (fun _ h => (Sats.keep [false, true, true, true, true, true, true, true, true, true, true, true] h :))) (fun q20 _ => ?_)
  refine ord_val rfl rfl rfl rfl (fun _ h => (Sats.keep [false, true, true, true, true, true, true, true, true, true, true, true] h :)) (val_build (z := [.string ⟨#[]⟩, .int .u64 0, .string ⟨#[]⟩, .slice none 0 0]) [(0, 1), (1, 1), (2, 1), (3, 1)] rfl Tryz.underlying26 (by kernel_rfl) (by kernel_rfl) rfl rfl rfl) ?_
  refine ord_eff0 (eff_storeW 2 rfl rfl rfl rfl rfl (by kernel_rfl) rfl rfl rfl) rfl rfl rfl (.inl rfl) (fun _ _ => ?_)
  refine ord_nil ?_
  refine thru_on ?_
  refine pk_ret ?_
  refine ret1c rfl Tryz.underlying26 rfl (by kernel_rfl) rfl (Ent.pure rfl) (Ent.own 2 rfl) fun w s => ⟨q20, trivial, ?_, s.to fun _ h => ?_⟩
  · rw [st_ver]; rfl
  · rw [st_ver]; exact Sats.under (fun _ h => st_shut h) (Sats.keep [true, false, false, false, true, true, true, true, true, true, true, true] h)
theorem store_Latest_c {E w : World} {L : List Ch} {B N : Nat} {S : St} {k : ByteArray} (s : Sat E w (stCh B S :: L)) (hS : Small N S.a) :
    Calls Tryz.prog 43 #[ptr (some ⟨B, 0, none⟩) 0, .string k] w (GivesX E (fun q : Option Addr × Nat => .agg (⟨latA S.a k, q.1, q.2⟩ : Ver).cells.toArray) (fun q => keysC ⟨latA S.a k, q.1, q.2⟩ :: stCh B S :: L) (fun _ => True)) := by
  refine enter (vs := [_, _]) Tryz.func43 rfl Tryz.ntmps43 rfl s ?_
  refine Pk.pull 0 rfl ?_
  refine Pk.heap (fun _ h => st_open h) ?_
  refine pk_seq ?_
  refine pk_region ?_
  refine pk_eff (eff_alloc (z := [.string ⟨#[]⟩, .int .u64 0, .string ⟨#[]⟩, .slice none 0 0]) rfl (by kernel_rfl)) rfl rfl rfl (fun b4 _ => ?_)
  refine pk_nil ?_
  refine thru_on ?_
  refine pk_seq ?_
  refine pk_region ?_
  refine pk_val rfl rfl rfl (val_move rfl rfl) ?_
  refine pk_val rfl rfl rfl (val_nilCheck rfl rfl (Ent.pure rfl)) ?_
  refine pk_val rfl rfl rfl (val_fieldAddr rfl Tryz.underlying164 3 1 (by kernel_rfl) (by decide) rfl (Ent.pure rfl)) ?_
  refine pk_val rfl rfl rfl (val_load rfl Tryz.underlying162 rfl rfl ((Ent.own 1 rfl).rd rfl)) ?_
  refine pk_val rfl rfl rfl (val_move rfl rfl) ?_
  refine pk_val rfl rfl rfl (val_lookup_ok (k := k) (0 : Int) rfl Tryz.underlying162 koS (by kernel_rfl) rfl rfl rfl (Ent.map 8 rfl)) ?_
  refine pk_val rfl rfl rfl (val_move rfl rfl) ?_
  refine pk_val rfl rfl rfl (val_extract rfl rfl rfl) ?_
  refine pk_val rfl rfl rfl (val_extract rfl rfl rfl) ?_
  refine pk_val rfl rfl rfl (val_assign rfl rfl) ?_
  refine pk_val rfl rfl rfl (val_assign rfl rfl) ?_
  refine pk_nil ?_
  refine thru_on ?_
  refine pk_seq ?_
  refine pk_seq ?_
  refine pk_region ?_
  refine pk_val rfl rfl rfl (val_move rfl rfl) ?_
  refine pk_val rfl rfl rfl (val_not rfl rfl) ?_
  refine pk_nil ?_
  refine thru_on ?_
  refine pk_ifn rfl (fun h => ?_) (fun h => ?_)
  · skip
    refine pk_seq ?_
    refine pk_region ?_
    refine pk_val rfl rfl rfl (val_move rfl rfl) ?_
    refine pk_val rfl rfl rfl (val_build (z := [.string ⟨#[]⟩, .int .u64 0, .string ⟨#[]⟩, .slice none 0 0]) [(0, 1), (1, 1), (2, 1), (3, 1)] rfl Tryz.underlying26 (by kernel_rfl) (by kernel_rfl) rfl rfl rfl) ?_
    refine pk_eff0 (eff_storeW 0 rfl rfl rfl rfl rfl (by kernel_rfl) rfl rfl rfl) rfl rfl (fun _ _ => ?_)
    refine pk_nil ?_
    refine thru_on ?_
    refine pk_ret ?_
    refine thru_ret ?_
    have e : latA S.a k = botA k := by rw [latA, if_neg]; rw [show S.a.las = S.las from rfl, h]; decide
    rw [e]
    refine ret1c rfl Tryz.underlying26 rfl (by kernel_rfl) rfl (Ent.pure rfl) (Ent.own 0 rfl) fun w s => ⟨(none, 0), trivial, rfl, s.to fun _ h => Sats.nilrow (st_shut (Sats.keep [false, true, true, true, true, true, true, true, true] h))⟩
  · skip
    refine pk_skip ?_
    refine thru_on ?_
    have e : latA S.a k = verA S.a (k, aget S.las k 0) := if_pos h
    rw [e]
    refine pk_seq ?_
    refine pk_region ?_
    refine pk_val rfl rfl rfl (val_move rfl rfl) ?_
    refine pk_val rfl rfl rfl (val_move rfl rfl) ?_
    refine pk_val rfl rfl rfl (val_move rfl rfl) ?_
    refine pk_val rfl rfl rfl (val_build (z := [.string ⟨#[]⟩, .int .u64 0]) [(0, 1), (1, 1)] rfl Tryz.underlying185 (by kernel_rfl) (by kernel_rfl) rfl rfl rfl) ?_
    refine pk_eff (eff_callx rfl ⟨_, Tryz.func110, by kernel_rfl, rfl⟩ rfl (fun E w s => store_version_c (n := (k, aget S.las k 0)) (s.to fun _ h => (st_shut ((Sats.pick 9 [1, 2, 3, 4, 5, 6, 7, 8, 0] rfl h :)))) hS)) rfl rfl rfl (fun q24 _ => ?_)
    refine pk_eff0 (eff_storeW 2 rfl rfl rfl rfl rfl (by kernel_rfl) rfl rfl rfl) rfl rfl (fun _ _ => ?_)
    refine pk_nil ?_
    refine thru_on ?_
    refine pk_ret ?_
    refine ret1c rfl Tryz.underlying26 rfl (by kernel_rfl) rfl (Ent.pure rfl) (Ent.own 2 rfl) fun w s => ⟨q24, trivial, rfl, s.to (fun _ h => Sats.keep [true, true, false] h)⟩
theorem store_ByID_c {E w : World} {L : List Ch} {B N : Nat} {S : St} {k : ByteArray} {id : Int} (s : Sat E w (stCh B S :: L)) (hS : Small N S.a) :
    Calls Tryz.prog 42 #[ptr (some ⟨B, 0, none⟩) 0, .string k, .int .u64 id] w (GivesX E (fun q : Option Addr × Nat => .tuple #[.agg (⟨byA S.a (k, id), q.1, q.2⟩ : Ver).cells.toArray, .int .i64 (byE S.a (k, id))]) (fun q => keysC ⟨byA S.a (k, id), q.1, q.2⟩ :: stCh B S :: L) (fun _ => True)) := by
  refine enter (vs := [_, _, _]) Tryz.func42 rfl Tryz.ntmps42 rfl s ?_
  refine Pk.pull 0 rfl ?_
  refine Pk.heap (fun _ h => st_open h) ?_
  refine pk_seq ?_
  refine pk_region ?_
  refine pk_eff (eff_alloc (z := [.string ⟨#[]⟩, .int .u64 0, .string ⟨#[]⟩, .slice none 0 0]) rfl (by kernel_rfl)) rfl rfl rfl (fun b6 _ => ?_)
  refine pk_val rfl rfl rfl (val_assign rfl rfl) ?_
  refine pk_nil ?_
  refine thru_on ?_
  refine pk_seq ?_
  refine pk_region ?_
  refine pk_val rfl rfl rfl (val_move rfl rfl) ?_
  refine pk_val rfl rfl rfl (val_move rfl rfl) ?_
  refine pk_val rfl rfl rfl (val_build (z := [.string ⟨#[]⟩, .int .u64 0]) [(0, 1), (1, 1)] rfl Tryz.underlying185 (by kernel_rfl) (by kernel_rfl) rfl rfl rfl) ?_
  refine pk_eff (eff_alloc (z := [.string ⟨#[]⟩, .int .u64 0]) rfl (by kernel_rfl)) rfl rfl rfl (fun b8 _ => ?_)
  refine pk_eff0 (eff_storeW 0 rfl rfl rfl rfl rfl (by kernel_rfl) rfl rfl rfl) rfl rfl (fun _ _ => ?_)
  refine pk_nil ?_
  refine thru_on ?_
  refine pk_seq ?_
  refine pk_seq ?_
  refine pk_drawk (.val 0 (.val 1 (.val 2 (.val 3 (.val 4 (.val 5 (.val 6 (.val 7 (.val 8 (.eff 9 (.eff 10 (.val 11 .nil)))))))))))) 1012 [] rfl (by kernel_rfl) (fun _ _ _ _ _ h => h) ?_
  refine ord_val rfl rfl rfl rfl (fun _ h => h) (val_move rfl rfl) ?_
  refine ord_val rfl rfl rfl rfl (fun _ h => h) (val_nilCheck rfl rfl (Ent.pure rfl)) ?_
  refine ord_val rfl rfl rfl rfl (fun _ h => h) (val_fieldAddr rfl Tryz.underlying164 0 1 (by kernel_rfl) (by decide) rfl (Ent.pure rfl)) ?_
  refine ord_val rfl rfl rfl rfl (fun _ h => h) (val_load rfl Tryz.underlying159 rfl rfl ((Ent.own 2 rfl).rd rfl)) ?_
  refine ord_val rfl rfl rfl rfl (fun _ h => h) (val_loads rfl Tryz.underlying185 rfl (by kernel_rfl) rfl (Ent.pure rfl) ((Ent.own 0 rfl).rds (fun j v h => by rw [Nat.zero_add j]; exact h))) ?_
  refine ord_val rfl rfl rfl rfl (fun _ h => h) (val_lookup_ok (k := (k, id)) dHd rfl Tryz.underlying159 koN (by kernel_rfl) rfl rfl rfl (Ent.map 3 rfl)) ?_
  refine ord_val rfl rfl rfl rfl (fun _ h => h) (val_move rfl rfl) ?_
  refine ord_val rfl rfl rfl rfl (fun _ h => h) (val_extract rfl rfl rfl) ?_
  refine ord_val rfl rfl rfl rfl (fun _ h => h) (val_extract rfl rfl rfl) ?_
  refine ord_eff (eff_alloc (z := [.string ⟨#[]⟩, .slice none 0 0, .int .i64 0]) rfl (by kernel_rfl)) rfl rfl rfl rfl (.inr fun _ _ => (fun _ h => (Sats.keep [false, true, true, true, true, true, true, true, true, true, true] h :))) (fun b9 _ => ?_)
  refine ord_eff0 (eff_storeW 0 rfl rfl rfl rfl rfl (by kernel_rfl) rfl rfl rfl) rfl rfl rfl (.inr fun _ _ => (fun _ h => (Sats.keep [false, true, true, true, true, true, true, true, true, true, true] h :))) (fun _ _ => ?_)
  refine ord_val rfl rfl rfl rfl (fun _ h => (Sats.keep [false, true, true, true, true, true, true, true, true, true, true] h :)) (val_assign rfl rfl) ?_
  refine ord_nil ?_
  refine thru_on ?_
  refine pk_seq ?_
  refine pk_region ?_
  refine pk_val rfl rfl rfl (val_move rfl rfl) ?_
  refine pk_val rfl rfl rfl (val_not rfl rfl) ?_
  refine pk_nil ?_
  refine thru_on ?_
  refine pk_ifn rfl (fun h => ?_) (fun h => ?_)
  · skip
    refine pk_seq ?_
    refine pk_region ?_
    refine pk_val rfl rfl rfl (val_build (z := [.string ⟨#[]⟩, .int .u64 0, .string ⟨#[]⟩, .slice none 0 0]) [(0, 1), (1, 1), (2, 1), (3, 1)] rfl Tryz.underlying26 (by kernel_rfl) (by kernel_rfl) rfl rfl rfl) ?_
    refine pk_eff0 (eff_storeW 2 rfl rfl rfl rfl rfl (by kernel_rfl) rfl rfl rfl) rfl rfl (fun _ _ => ?_)
    refine pk_val rfl rfl rfl (val_assign rfl rfl) ?_
    refine pk_nil ?_
    refine thru_on ?_
    refine pk_ret ?_
    refine thru_ret ?_
    have h' : ¬ ahas S.a.vs (k, id) = true := by rw [← st_has, h]; decide
    have e : byA S.a (k, id) = botA ⟨#[]⟩ := if_neg h'
    have e2 : byE S.a (k, id) = 110 := if_neg h'
    rw [e, e2]
    refine ret2c rfl Tryz.underlying26 rfl (by kernel_rfl) rfl rfl (Ent.pure rfl) (Ent.own 2 rfl) fun w s => ⟨(none, 0), trivial, rfl, s.to fun _ h => Sats.nilrow (st_shut (Sats.keep [false, false, false, true, true, true, true, true, true, true, true] h))⟩
  · skip
    refine pk_skip ?_
    refine thru_on ?_
    have h' : ahas S.a.vs (k, id) = true := by rw [← st_has]; exact h
    have e : byA S.a (k, id) = verA S.a (k, id) := if_pos h'
    have e2 : byE S.a (k, id) = 0 := if_pos h'
    rw [e, e2]
    refine pk_seq ?_
    refine pk_region ?_
    refine pk_val rfl rfl rfl (val_move rfl rfl) ?_
    refine pk_val rfl rfl rfl (val_loads rfl Tryz.underlying185 rfl (by kernel_rfl) rfl (Ent.pure rfl) ((Ent.own 1 rfl).rds (fun j v h => by rw [Nat.zero_add j]; exact h))) ?_
    refine pk_eff (eff_callx rfl ⟨_, Tryz.func110, by kernel_rfl, rfl⟩ rfl (fun E w s => store_version_c (n := (k, id)) (s.to fun _ h => (st_shut ((Sats.pick 11 [3, 4, 5, 6, 7, 8, 9, 10, 0, 1, 2] rfl h :)))) hS)) rfl rfl rfl (fun q28 _ => ?_)
    refine pk_eff0 (eff_storeW 4 rfl rfl rfl rfl rfl (by kernel_rfl) rfl rfl rfl) rfl rfl (fun _ _ => ?_)
    refine pk_val rfl rfl rfl (val_assign rfl rfl) ?_
    refine pk_nil ?_
    refine thru_on ?_
    refine pk_ret ?_
    refine ret2c rfl Tryz.underlying26 rfl (by kernel_rfl) rfl rfl (Ent.pure rfl) (Ent.own 4 rfl) fun w s => ⟨q28, trivial, rfl, s.to (fun _ h => Sats.keep [true, true, false, false, false] h)⟩
theorem store_Last_c {E w : World} {L : List Ch} {B : Nat} {S : St} {k : ByteArray} (s : Sat E w (stCh B S :: L)) :
    Calls Tryz.prog 101 #[ptr (some ⟨B, 0, none⟩) 0, .string k] w (Gives E (.int .u64 (aget S.a.las k 0)) (stCh B S :: L)) := by
  refine enter (vs := [_, _]) Tryz.func101 rfl Tryz.ntmps101 rfl s ?_
  refine Pk.pull 0 rfl ?_
  refine Pk.heap (fun _ h => st_open h) ?_
  refine pk_seq ?_
  refine pk_region ?_
  refine pk_val rfl rfl rfl (val_assign rfl rfl) ?_
  refine pk_nil ?_
  refine thru_on ?_
  refine pk_seq ?_
  refine pk_region ?_
  refine pk_val rfl rfl rfl (val_move rfl rfl) ?_
  refine pk_val rfl rfl rfl (val_nilCheck rfl rfl (Ent.pure rfl)) ?_
  refine pk_val rfl rfl rfl (val_fieldAddr rfl Tryz.underlying164 3 1 (by kernel_rfl) (by decide) rfl (Ent.pure rfl)) ?_
  refine pk_val rfl rfl rfl (val_load rfl Tryz.underlying162 rfl rfl ((Ent.own 0 rfl).rd rfl)) ?_
  refine pk_val rfl rfl rfl (val_move rfl rfl) ?_
  refine pk_val rfl rfl rfl (val_lookup (k := k) (0 : Int) rfl Tryz.underlying162 koS (by kernel_rfl) rfl rfl rfl (Ent.map 7 rfl)) ?_
  refine pk_val rfl rfl rfl (val_assign rfl rfl) ?_
  refine pk_nil ?_
  refine thru_on ?_
  refine pk_ret ?_
  refine ret1 rfl rfl fun w s => ⟨rfl, s.to fun _ h => (st_shut (h))⟩
def stampOne (key : ByteArray) (now : Int) (vs : List (Nm × Ha)) (o : Int) : List (Nm × Ha) := if (aget vs (key, o) dHa).stamp = -1 then aput vs (key, o) ⟨(aget vs (key, o) dHa).val, (aget vs (key, o) dHa).keys, now⟩ else vs
def stampAll (key : ByteArray) (id now : Int) : List Int → List (Nm × Ha) → List (Nm × Ha)
  | [], vs => vs
  | o :: r, vs => if id ≤ o then vs else stampAll key id now r (stampOne key now vs o)
def comKey (id now : Int) (a : Sa) (key : ByteArray) : Sa := if id ≤ aget a.las key 0 then a else ⟨stampAll key id now (aget a.ids key []) a.vs, a.ids, a.pls, aput a.las key id⟩
def comOk (id now : Int) : Bool := decide (65536 ≤ id) && tickB now
def comF (a : Sa) (id now : Int) : Sa := if comOk id now = true then (aget a.pls id []).foldl (comKey id now) a else a
def comN (a : Sa) (id now : Int) : Int := if comOk id now = true then ((aget a.pls id []).length : Nat) else 0
def comE (id now : Int) : Int := if comOk id now = true then 0 else 1
def mk4 (S : St) (vs : List (Nm × Hd)) (las : List (ByteArray × Int)) : St := ⟨S.m1, S.m2, S.m3, S.m4, vs, S.ids, S.pls, las⟩
theorem stampOne_keys {key : ByteArray} {now : Int} {vs : List (Nm × Ha)} {o : Int} {P : Nm × Ha → Prop} (h : ∀ p ∈ vs, P p) (hz : (aget vs (key, o) dHa).stamp = -1 → P ((key, o), ⟨(aget vs (key, o) dHa).val, (aget vs (key, o) dHa).keys, now⟩)) : ∀ p ∈ stampOne key now vs o, P p := fun p hp => by
  unfold stampOne at hp
  split at hp
  · rename_i hs
    rcases mem_aput hp with e | e
    · rw [e]; exact hz hs
    · exact h p e
  · exact h p hp
theorem stampAll_keys {key : ByteArray} {id now : Int} : ∀ (os : List Int) {vs : List (Nm × Ha)}, (∀ p ∈ vs, p.2.keys.length ≤ 1024) → ∀ p ∈ stampAll key id now os vs, p.2.keys.length ≤ 1024
  | [], vs, h => h
  | o :: r, vs, h => by
    unfold stampAll
    split
    · exact h
    · refine stampAll_keys r (stampOne_keys (P := fun p => p.2.keys.length ≤ 1024) h fun _ => ?_)
      exact aget_all (P := fun l : Ha => l.keys.length ≤ 1024) h _ (Nat.zero_le _)
theorem Small.com1 {N : Nat} {a : Sa} (h : Small N a) (id now : Int) (key : ByteArray) : Small N (comKey id now a key) := by
  unfold comKey
  split
  · exact h
  · exact ⟨h.ids, h.pls, stampAll_keys _ h.keys⟩
theorem Small.comL {N : Nat} (id now : Int) : ∀ (ks : List ByteArray) {a : Sa}, Small N a → Small N (ks.foldl (comKey id now) a)
  | [], a, h => h
  | k :: r, a, h => Small.comL id now r (h.com1 id now k)
theorem Small.com {N : Nat} {a : Sa} (h : Small N a) (id now : Int) : Small N (comF a id now) := by
  unfold comF
  split
  · exact Small.comL id now _ h
  · exact h
theorem drop_cons {α : Type} (d : α) {l : List α} {k : Nat} (h : k < l.length) : l.drop k = l.getD k d :: l.drop (k + 1) := by
  rw [List.drop_eq_getElem_cons h]; simp [h]
theorem stampOne_no {key : ByteArray} {now : Int} {vs : List (Nm × Hd)} {o : Int} (h : ¬ (aget vs (key, o) dHd).stamp = -1) : stampOne key now (mapv Hd.a vs) o = mapv Hd.a vs := by
  have e : aget (mapv Hd.a vs) (key, o) dHa = (aget vs (key, o) dHd).a := aget_mapv Hd.a vs (key, o) dHd
  rw [stampOne, e]; exact if_neg h
theorem stampOne_yes {key : ByteArray} {now : Int} {vs : List (Nm × Hd)} {o : Int} (h : (aget vs (key, o) dHd).stamp = -1) : stampOne key now (mapv Hd.a vs) o = mapv Hd.a (aput vs (key, o) ⟨(aget vs (key, o) dHd).val, (aget vs (key, o) dHd).keys, now, (aget vs (key, o) dHd).A, (aget vs (key, o) dHd).c⟩) := by
  have e : aget (mapv Hd.a vs) (key, o) dHa = (aget vs (key, o) dHd).a := aget_mapv Hd.a vs (key, o) dHd
  rw [stampOne, e]; refine (if_pos h).trans ?_; rw [← aput_mapv Hd.a]; rfl
theorem stamp_has {vs : List (Nm × Hd)} {n : Nm} (h : (aget vs n dHd).stamp = -1) : ahas vs n = true := by
  cases e : ahas vs n with
  | true => rfl
  | false => rw [aget_not dHd e] at h; cases h
theorem store_Commit_c {E w : World} {L : List Ch} {B N : Nat} {S : St} {id now : Int} (s : Sat E w (stCh B S :: L)) (hS : Small N S.a) (hN : N ≤ 1099511627776) :
    Calls Tryz.prog 41 #[ptr (some ⟨B, 0, none⟩) 0, .int .u64 id, .int .i64 now] w (GivesX E (fun _ : St => .tuple #[.int .i64 (comN S.a id now), .int .i64 (comE id now)]) (fun q => stCh B q :: L) (fun q => q.a = comF S.a id now)) := by
  refine enter (vs := [_, _, _]) Tryz.func41 rfl Tryz.ntmps41 rfl s ?_
  refine pk_seq ?_
  refine pk_region ?_
  refine pk_val rfl rfl rfl (val_assign rfl rfl) ?_
  refine pk_val rfl rfl rfl (val_assign rfl rfl) ?_
  refine pk_nil ?_
  refine thru_on ?_
  refine pk_seq ?_
  refine pk_seq ?_
  refine pk_region ?_
  refine pk_val rfl rfl rfl (val_move rfl rfl) ?_
  refine pk_val rfl rfl rfl (val_lss rfl rfl rfl) ?_
  by_cases hid : 65536 ≤ id
  · skip
    have hid : decide (65536 ≤ id) = true := decide_eq_true hid
    refine Pk.slot 14 (v := .bool false) rfl (congrArg Value.bool (decide_eq_false (by have := of_decide_eq_true hid; omega))) ?_
    refine pk_val rfl rfl rfl (val_move rfl rfl) ?_
    refine pk_guard_yes rfl rfl rfl ?_
    refine pk_val rfl rfl rfl (val_move rfl rfl) ?_
    refine pk_guard_yes rfl rfl rfl ?_
    refine pk_eff (eff_call1 rfl ⟨_, Tryz.func107, by kernel_rfl, rfl⟩ rfl (fun E w s => store_tick_c s)) rfl rfl rfl (fun _ _ => ?_)
    refine pk_guard_yes rfl rfl rfl ?_
    refine pk_val rfl rfl rfl (val_not rfl rfl) ?_
    refine pk_val rfl rfl rfl (val_pick rfl rfl rfl rfl) ?_
    refine pk_nil ?_
    refine thru_on ?_
    refine pk_ifb rfl (fun h0 => ?_) (fun h0 => ?_)
    · skip
      refine pk_seq ?_
      refine pk_region ?_
      refine pk_val rfl rfl rfl (val_assign rfl rfl) ?_
      refine pk_val rfl rfl rfl (val_assign rfl rfl) ?_
      refine pk_nil ?_
      refine thru_on ?_
      refine pk_ret ?_
      refine thru_ret ?_
      have eno : comOk id now = false := by rw [comOk, hid, (by simpa using h0 : tickB now = false)]; rfl
      refine ret2 rfl rfl rfl fun w s => ⟨S, ?_, ?_, s⟩
      · rw [comF, eno]; rfl
      · rw [comN, comE, eno]; rfl
    · skip
      refine pk_skip ?_
      refine thru_on ?_
      have ht : tickB now = true := by simpa using h0
      have hok : comOk id now = true := by rw [comOk, hid, ht]; rfl
      have hksl := hS.pl id
      rw [← st_pls] at hksl
      refine Pk.pull 0 rfl ?_
      refine Pk.heap (fun _ h => st_open h) ?_
      refine pk_seq ?_
      refine pk_seq ?_
      refine pk_region ?_
      refine pk_val rfl rfl rfl (val_move rfl rfl) ?_
      refine pk_val rfl rfl rfl (val_nilCheck rfl rfl (Ent.pure rfl)) ?_
      refine pk_val rfl rfl rfl (val_fieldAddr rfl Tryz.underlying164 2 1 (by kernel_rfl) (by decide) rfl (Ent.pure rfl)) ?_
      refine pk_val rfl rfl rfl (val_load rfl Tryz.underlying161 rfl rfl ((Ent.own 0 rfl).rd rfl)) ?_
      refine pk_val rfl rfl rfl (val_move rfl rfl) ?_
      refine pk_val rfl rfl rfl (val_lookup (k := id) dRs rfl Tryz.underlying161 koI (by kernel_rfl) rfl rfl rfl (Ent.map 5 rfl)) ?_
      refine pk_val rfl rfl rfl (val_len_slice rfl Tryz.underlying24 rfl) ?_
      refine pk_val rfl rfl rfl (val_move rfl rfl) ?_
      refine pk_nil ?_
      refine thru_on ?_
      refine pk_block ?_
      refine pk_loop (α := Nat × List (Nm × Hd) × List (ByteArray × Int)) ((0, S.vs, S.las)) (fun y => [(0, ptr (some ⟨B, 0, none⟩) 0), (1, .int .u64 id), (2, .int .i64 now), (25, .slice (aget S.pls id dRs).A (aget S.pls id dRs).l.length (aget S.pls id dRs).c), (26, .int .i64 ((aget S.pls id dRs).l.length : Nat)), (27, .int .i64 (y.1 : Nat))]) (fun y => (own (some ⟨B, 0, none⟩) 1 1 164 4 [.map (some S.m1), .map (some S.m2), .map (some S.m3), .map (some S.m4)]) :: (mapc (some S.m1) (encP .u64) Hd.v y.2.1) :: (cat (y.2.1.map hdCh)) :: (mapc (some S.m2) encT Ri.v S.ids) :: (cat (S.ids.map riCh)) :: (mapc (some S.m3) encN Rs.v S.pls) :: (cat (S.pls.map rsCh)) :: (mapc (some S.m4) encT encN y.2.2) :: L) (fun y => y.1 ≤ (aget S.pls id dRs).l.length ∧ (mk4 S y.2.1 y.2.2).a = ((aget S.pls id dRs).l.take y.1).foldl (comKey id now) S.a) (fun y => (aget S.pls id dRs).l.length - y.1) ?_ ?_ ?_ ?_
      · (try dsimp only) <;> exact ⟨Nat.zero_le _, rfl⟩
      · exact ⟨(Sub.cons rfl (by first | rfl | (congr 1; omega) | simp) (Sub.cons rfl (by first | rfl | (congr 1; omega) | simp) (Sub.cons rfl (by first | rfl | (congr 1; omega) | simp) (Sub.cons rfl (by first | rfl | (congr 1; omega) | simp) (Sub.cons rfl (by first | rfl | (congr 1; omega) | simp) (Sub.cons rfl (by first | rfl | (congr 1; omega) | simp) (Sub.nil _))))))), rfl⟩
      · exact (fun _ h => h)
      rintro ⟨k, vs, las⟩ ⟨hk0, hI⟩
      dsimp only at hk0 hI ⊢
      refine pk_seq ?_
      refine pk_region ?_
      refine pk_val rfl rfl rfl (val_lss rfl rfl rfl) ?_
      refine pk_nil ?_
      refine thru_on ?_
      refine pk_seq ?_
      refine pk_if rfl (fun h => ?_) (fun h => ?_)
      · skip
        refine pk_skip ?_
        refine thru_on ?_
        have hk : k < (aget S.pls id dRs).l.length := by omega
        have hrk := ent_rs (L := (own (some ⟨B, 0, none⟩) 1 1 164 4 [.map (some S.m1), .map (some S.m2), .map (some S.m3), .map (some S.m4)]) :: (mapc (some S.m1) (encP .u64) Hd.v vs) :: (cat (vs.map hdCh)) :: (mapc (some S.m2) encT Ri.v S.ids) :: (cat (S.ids.map riCh)) :: (mapc (some S.m3) encN Rs.v S.pls) :: (cat (S.pls.map rsCh)) :: (mapc (some S.m4) encT encN las) :: L) 6 rfl id
        refine Pk.tells (hrk.some_of (by rw [List.length_map]; omega)) fun hA => ?_
        have hol := hS.id ((aget S.pls id dRs).l.getD k emp)
        rw [← st_ids] at hol
        refine pk_seq ?_
        refine pk_block ?_
        refine pk_seq ?_
        refine pk_region ?_
        refine pk_val rfl rfl rfl (val_indexAddr rfl Tryz.underlying24 1 (by kernel_rfl) rfl rfl k rfl hk (Ent.pure hA)) ?_
        refine pk_val rfl rfl rfl (val_load rfl Tryz.underlying9 rfl rfl (hrk.rd (get_map emp hk))) ?_
        refine pk_val rfl rfl rfl (val_assign rfl rfl) ?_
        refine pk_nil ?_
        refine thru_on ?_
        refine pk_seq ?_
        refine pk_seq ?_
        refine pk_region ?_
        refine pk_val rfl rfl rfl (val_move rfl rfl) ?_
        refine pk_val rfl rfl rfl (val_nilCheck rfl rfl (Ent.pure rfl)) ?_
        refine pk_val rfl rfl rfl (val_fieldAddr rfl Tryz.underlying164 3 1 (by kernel_rfl) (by decide) rfl (Ent.pure rfl)) ?_
        refine pk_val rfl rfl rfl (val_load rfl Tryz.underlying162 rfl rfl ((Ent.own 0 rfl).rd rfl)) ?_
        refine pk_val rfl rfl rfl (val_move rfl rfl) ?_
        refine pk_val rfl rfl rfl (val_lookup (k := ((aget S.pls id dRs).l.getD k emp)) (0 : Int) rfl Tryz.underlying162 koS (by kernel_rfl) rfl rfl rfl (Ent.map 7 rfl)) ?_
        refine pk_val rfl rfl rfl (val_move rfl rfl) ?_
        refine pk_val rfl rfl rfl (val_geq rfl rfl rfl) ?_
        refine pk_nil ?_
        refine thru_on ?_
        refine pk_if rfl (fun h2 => ?_) (fun h2 => ?_)
        · skip
          refine pk_exit ?_
          refine thru ?_
          refine pk_here ?_
          refine thru_on ?_
          refine pk_region ?_
          refine pk_val rfl rfl rfl (val_add rfl rfl rfl (by omega)) ?_
          refine pk_val rfl rfl rfl (val_move rfl rfl) ?_
          refine pk_nil ?_
          refine thru_on ?_
          refine pk_next (x := ⟨k, vs, las⟩) ((k + 1, vs, las)) ?_ ?_ ?_ ?_
          · (try dsimp only) <;> exact ⟨hk, by rw [foldl_take _ emp hk, ← hI, comKey, if_pos (show id ≤ aget (mk4 S vs las).a.las ((aget S.pls id dRs).l.getD k emp) 0 from h2)]⟩
          · (try dsimp only); exact (by omega)
          · exact ⟨(Sub.cons rfl (by first | rfl | (congr 1; omega) | simp) (Sub.cons rfl (by first | rfl | (congr 1; omega) | simp) (Sub.cons rfl (by first | rfl | (congr 1; omega) | simp) (Sub.cons rfl (by first | rfl | (congr 1; omega) | simp) (Sub.cons rfl (by first | rfl | (congr 1; omega) | simp) (Sub.cons rfl (by first | rfl | (congr 1; omega) | simp) (Sub.nil _))))))), rfl⟩
          · exact (fun _ h => h)
        · skip
          refine pk_skip ?_
          refine thru_on ?_
          refine pk_seq ?_
          refine pk_region ?_
          refine pk_val rfl rfl rfl (val_move rfl rfl) ?_
          refine pk_val rfl rfl rfl (val_nilCheck rfl rfl (Ent.pure rfl)) ?_
          refine pk_val rfl rfl rfl (val_fieldAddr rfl Tryz.underlying164 3 1 (by kernel_rfl) (by decide) rfl (Ent.pure rfl)) ?_
          refine pk_val rfl rfl rfl (val_load rfl Tryz.underlying162 rfl rfl ((Ent.own 0 rfl).rd rfl)) ?_
          refine pk_val rfl rfl rfl (val_move rfl rfl) ?_
          refine pk_val rfl rfl rfl (val_move rfl rfl) ?_
          refine pk_eff0 (eff_mapUpdate (k := ((aget S.pls id dRs).l.getD k emp)) 7 id rfl Tryz.underlying162 koS rfl rfl rfl rfl) rfl rfl (fun _ _ => ?_)
          refine pk_nil ?_
          refine thru_on ?_
          refine pk_seq ?_
          refine pk_region ?_
          refine pk_val rfl rfl rfl (val_move rfl rfl) ?_
          refine pk_val rfl rfl rfl (val_nilCheck rfl rfl (Ent.pure rfl)) ?_
          refine pk_val rfl rfl rfl (val_fieldAddr rfl Tryz.underlying164 1 1 (by kernel_rfl) (by decide) rfl (Ent.pure rfl)) ?_
          refine pk_val rfl rfl rfl (val_load rfl Tryz.underlying160 rfl rfl ((Ent.own 0 rfl).rd rfl)) ?_
          refine pk_val rfl rfl rfl (val_move rfl rfl) ?_
          refine pk_val rfl rfl rfl (val_lookup (k := ((aget S.pls id dRs).l.getD k emp)) dRi rfl Tryz.underlying160 koS (by kernel_rfl) rfl rfl rfl (Ent.map 3 rfl)) ?_
          refine pk_val rfl rfl rfl (val_len_slice rfl Tryz.underlying54 rfl) ?_
          refine pk_val rfl rfl rfl (val_move rfl rfl) ?_
          refine pk_nil ?_
          refine thru_on ?_
          refine pk_block ?_
          refine pk_loop (α := Nat × List (Nm × Hd)) ((0, vs)) (fun y => [(0, ptr (some ⟨B, 0, none⟩) 0), (1, .int .u64 id), (2, .int .i64 now), (25, .slice (aget S.pls id dRs).A (aget S.pls id dRs).l.length (aget S.pls id dRs).c), (26, .int .i64 ((aget S.pls id dRs).l.length : Nat)), (9, .string ((aget S.pls id dRs).l.getD k emp)), (27, .int .i64 (k : Nat)), (50, .slice (aget S.ids ((aget S.pls id dRs).l.getD k emp) dRi).A (aget S.ids ((aget S.pls id dRs).l.getD k emp) dRi).l.length (aget S.ids ((aget S.pls id dRs).l.getD k emp) dRi).c), (51, .int .i64 ((aget S.ids ((aget S.pls id dRs).l.getD k emp) dRi).l.length : Nat)), (52, .int .i64 (y.1 : Nat))]) (fun y => (own (some ⟨B, 0, none⟩) 1 1 164 4 [.map (some S.m1), .map (some S.m2), .map (some S.m3), .map (some S.m4)]) :: (mapc (some S.m1) (encP .u64) Hd.v y.2) :: (cat (y.2.map hdCh)) :: (mapc (some S.m2) encT Ri.v S.ids) :: (cat (S.ids.map riCh)) :: (mapc (some S.m3) encN Rs.v S.pls) :: (cat (S.pls.map rsCh)) :: (mapc (some S.m4) encT encN (aput las ((aget S.pls id dRs).l.getD k emp) id)) :: L) (fun y => y.1 ≤ (aget S.ids ((aget S.pls id dRs).l.getD k emp) dRi).l.length ∧ stampAll ((aget S.pls id dRs).l.getD k emp) id now ((aget S.ids ((aget S.pls id dRs).l.getD k emp) dRi).l.drop y.1) (mapv Hd.a y.2) = stampAll ((aget S.pls id dRs).l.getD k emp) id now (aget S.ids ((aget S.pls id dRs).l.getD k emp) dRi).l (mapv Hd.a vs)) (fun y => (aget S.ids ((aget S.pls id dRs).l.getD k emp) dRi).l.length - y.1) ?_ ?_ ?_ ?_
          · (try dsimp only) <;> exact ⟨Nat.zero_le _, rfl⟩
          · exact ⟨(Sub.cons rfl (by first | rfl | (congr 1; omega) | simp) (Sub.cons rfl (by first | rfl | (congr 1; omega) | simp) (Sub.cons rfl (by first | rfl | (congr 1; omega) | simp) (Sub.cons rfl (by first | rfl | (congr 1; omega) | simp) (Sub.cons rfl (by first | rfl | (congr 1; omega) | simp) (Sub.cons rfl (by first | rfl | (congr 1; omega) | simp) (Sub.cons rfl (by first | rfl | (congr 1; omega) | simp) (Sub.cons rfl (by first | rfl | (congr 1; omega) | simp) (Sub.cons rfl (by first | rfl | (congr 1; omega) | simp) (Sub.cons rfl (by first | rfl | (congr 1; omega) | simp) (Sub.nil _))))))))))), rfl⟩
          · exact (fun _ h => h)
          rintro ⟨j, ws⟩ ⟨hj0, hJ⟩
          dsimp only at hj0 hJ ⊢
          have hcomI : ∀ zs : List (Nm × Hd), mapv Hd.a zs = stampAll ((aget S.pls id dRs).l.getD k emp) id now (aget S.ids ((aget S.pls id dRs).l.getD k emp) dRi).l (mapv Hd.a vs) → comKey id now (mk4 S vs las).a ((aget S.pls id dRs).l.getD k emp) = (mk4 S zs (aput las ((aget S.pls id dRs).l.getD k emp) id)).a := fun zs hz => by
            rw [comKey, if_neg (show ¬ id ≤ aget (mk4 S vs las).a.las ((aget S.pls id dRs).l.getD k emp) 0 from h2)]
            show Sa.mk (stampAll ((aget S.pls id dRs).l.getD k emp) id now (aget S.a.ids ((aget S.pls id dRs).l.getD k emp) []) (mapv Hd.a vs)) _ _ _ = Sa.mk (mapv Hd.a zs) _ _ _
            rw [hz, ← st_ids]; rfl
          refine pk_seq ?_
          refine pk_region ?_
          refine pk_val rfl rfl rfl (val_lss rfl rfl rfl) ?_
          refine pk_nil ?_
          refine thru_on ?_
          refine pk_seq ?_
          refine pk_if rfl (fun h3 => ?_) (fun h3 => ?_)
          · skip
            refine pk_skip ?_
            refine thru_on ?_
            have hj : j < (aget S.ids ((aget S.pls id dRs).l.getD k emp) dRi).l.length := by omega
            obtain ⟨o, ho⟩ : ∃ o, o = (aget S.ids ((aget S.pls id dRs).l.getD k emp) dRi).l.getD j 0 := ⟨_, rfl⟩
            have hro := ent_ri (L := (own (some ⟨B, 0, none⟩) 1 1 164 4 [.map (some S.m1), .map (some S.m2), .map (some S.m3), .map (some S.m4)]) :: (mapc (some S.m1) (encP .u64) Hd.v ws) :: (cat (ws.map hdCh)) :: (mapc (some S.m2) encT Ri.v S.ids) :: (cat (S.ids.map riCh)) :: (mapc (some S.m3) encN Rs.v S.pls) :: (cat (S.pls.map rsCh)) :: (mapc (some S.m4) encT encN (aput las ((aget S.pls id dRs).l.getD k emp) id)) :: L) 4 rfl ((aget S.pls id dRs).l.getD k emp)
            refine Pk.tells (hro.some_of (by rw [List.length_map]; omega)) fun hA2 => ?_
            rw [drop_cons 0 hj, ← ho, stampAll] at hJ
            refine pk_seq ?_
            refine pk_block ?_
            refine pk_seq ?_
            refine pk_region ?_
            refine pk_val rfl rfl rfl (val_indexAddr rfl Tryz.underlying54 1 (by kernel_rfl) rfl rfl j rfl hj (Ent.pure hA2)) ?_
            refine pk_val rfl rfl rfl (val_load (v := .int .u64 o) rfl Tryz.underlying23 rfl rfl (hro.rd (by rw [ho]; exact get_map 0 hj))) ?_
            refine pk_val rfl rfl rfl (val_assign rfl rfl) ?_
            refine pk_nil ?_
            refine thru_on ?_
            refine pk_seq ?_
            refine pk_seq ?_
            refine pk_region ?_
            refine pk_val rfl rfl rfl (val_move rfl rfl) ?_
            refine pk_val rfl rfl rfl (val_move rfl rfl) ?_
            refine pk_val rfl rfl rfl (val_geq rfl rfl rfl) ?_
            refine pk_nil ?_
            refine thru_on ?_
            refine pk_if rfl (fun h4 => ?_) (fun h4 => ?_)
            · skip
              rw [if_pos h4] at hJ
              have hcom := hcomI ws hJ
              refine pk_exit ?_
              refine thru ?_
              refine pk_out rfl ?_
              refine thru ?_
              refine thru ?_
              refine pk_here ?_
              refine in_on ?_
              refine thru_on ?_
              refine pk_region ?_
              refine pk_val rfl rfl rfl (val_add rfl rfl rfl (by omega)) ?_
              refine pk_val rfl rfl rfl (val_move rfl rfl) ?_
              refine pk_nil ?_
              refine thru_on ?_
              refine pk_next (x := ⟨k, vs, las⟩) ((k + 1, ws, aput las ((aget S.pls id dRs).l.getD k emp) id)) ?_ ?_ ?_ ?_
              · (try dsimp only) <;> exact ⟨hk, by rw [foldl_take _ emp hk, ← hI]; exact hcom.symm⟩
              · (try dsimp only); exact (by omega)
              · exact ⟨(Sub.cons rfl (by first | rfl | (congr 1; omega) | simp) (Sub.cons rfl (by first | rfl | (congr 1; omega) | simp) (Sub.cons rfl (by first | rfl | (congr 1; omega) | simp) (Sub.cons rfl (by first | rfl | (congr 1; omega) | simp) (Sub.cons rfl (by first | rfl | (congr 1; omega) | simp) (Sub.cons rfl (by first | rfl | (congr 1; omega) | simp) (Sub.nil _))))))), rfl⟩
              · exact (fun _ h => h)
            · skip
              refine pk_skip ?_
              refine thru_on ?_
              rw [if_neg h4] at hJ
              refine pk_seq ?_
              refine pk_region ?_
              refine pk_val rfl rfl rfl (val_move rfl rfl) ?_
              refine pk_val rfl rfl rfl (val_nilCheck rfl rfl (Ent.pure rfl)) ?_
              refine pk_val rfl rfl rfl (val_fieldAddr rfl Tryz.underlying164 0 1 (by kernel_rfl) (by decide) rfl (Ent.pure rfl)) ?_
              refine pk_val rfl rfl rfl (val_load rfl Tryz.underlying159 rfl rfl ((Ent.own 0 rfl).rd rfl)) ?_
              refine pk_val rfl rfl rfl (val_move rfl rfl) ?_
              refine pk_val rfl rfl rfl (val_move rfl rfl) ?_
              refine pk_val rfl rfl rfl (val_build (z := [.string ⟨#[]⟩, .int .u64 0]) [(0, 1), (1, 1)] rfl Tryz.underlying185 (by kernel_rfl) (by kernel_rfl) rfl rfl rfl) ?_
              refine pk_val rfl rfl rfl (val_lookup (k := (((aget S.pls id dRs).l.getD k emp), o)) dHd rfl Tryz.underlying159 koN (by kernel_rfl) rfl rfl rfl (Ent.map 1 rfl)) ?_
              refine pk_eff (eff_alloc (z := [.string ⟨#[]⟩, .slice none 0 0, .int .i64 0]) rfl (by kernel_rfl)) rfl rfl rfl (fun b12 _ => ?_)
              refine pk_eff0 (eff_storeW 0 rfl rfl rfl rfl rfl (by kernel_rfl) rfl rfl rfl) rfl rfl (fun _ _ => ?_)
              refine pk_nil ?_
              refine thru_on ?_
              refine pk_seq ?_
              refine pk_region ?_
              refine pk_val rfl rfl rfl (val_fieldAddr rfl Tryz.underlying187 2 1 (by kernel_rfl) (by decide) rfl (Ent.pure rfl)) ?_
              refine pk_val rfl rfl rfl (val_load (v := .int .i64 (aget ws (((aget S.pls id dRs).l.getD k emp), o) dHd).stamp) rfl Tryz.underlying2 rfl rfl ((Ent.own 0 rfl).rd rfl)) ?_
              refine pk_val rfl rfl rfl (val_eql rfl rfl rfl) ?_
              refine pk_nil ?_
              refine thru_on ?_
              refine pk_if rfl (fun h5 => ?_) (fun h5 => ?_)
              · skip
                have hwh := stamp_has h5
                refine pk_seq ?_
                refine pk_region ?_
                refine pk_val rfl rfl rfl (val_move rfl rfl) ?_
                refine pk_val rfl rfl rfl (val_fieldAddr rfl Tryz.underlying187 2 1 (by kernel_rfl) (by decide) rfl (Ent.pure rfl)) ?_
                refine pk_eff0 (eff_store 0 rfl rfl rfl rfl rfl (by kernel_rfl) rfl (by first | (simp; done) | exact Nat.le_refl _ | exact Nat.le_of_ble_eq_true rfl) (by first | (simp; done) | exact Nat.le_refl _ | exact Nat.le_of_ble_eq_true rfl)) rfl rfl (fun _ _ => ?_)
                refine pk_nil ?_
                refine thru_on ?_
                refine pk_drawk (.val 0 (.val 1 (.val 2 (.val 3 (.val 4 (.val 5 (.val 6 (.val 7 (.eff 8 .nil))))))))) 8 [] rfl (by kernel_rfl) (fun _ _ _ _ _ h => h) ?_
                refine ord_val rfl rfl rfl rfl (fun _ h => h) (val_move rfl rfl) ?_
                refine ord_val rfl rfl rfl rfl (fun _ h => h) (val_nilCheck rfl rfl (Ent.pure rfl)) ?_
                refine ord_val rfl rfl rfl rfl (fun _ h => h) (val_fieldAddr rfl Tryz.underlying164 0 1 (by kernel_rfl) (by decide) rfl (Ent.pure rfl)) ?_
                refine ord_val rfl rfl rfl rfl (fun _ h => h) (val_load rfl Tryz.underlying159 rfl rfl ((Ent.own 1 rfl).rd rfl)) ?_
                refine ord_val rfl rfl rfl rfl (fun _ h => h) (val_move rfl rfl) ?_
                refine ord_val rfl rfl rfl rfl (fun _ h => h) (val_move rfl rfl) ?_
                refine ord_val rfl rfl rfl rfl (fun _ h => h) (val_build (z := [.string ⟨#[]⟩, .int .u64 0]) [(0, 1), (1, 1)] rfl Tryz.underlying185 (by kernel_rfl) (by kernel_rfl) rfl rfl rfl) ?_
                refine ord_val rfl rfl rfl rfl (fun _ h => h) (val_loads (vs := [.string (aget ws (((aget S.pls id dRs).l.getD k emp), o) dHd).val, .slice (aget ws (((aget S.pls id dRs).l.getD k emp), o) dHd).A (aget ws (((aget S.pls id dRs).l.getD k emp), o) dHd).keys.length (aget ws (((aget S.pls id dRs).l.getD k emp), o) dHd).c, .int .i64 now]) rfl Tryz.underlying187 rfl (by kernel_rfl) rfl (Ent.pure rfl) ((Ent.own 0 rfl).rds (fun j v h => by rw [Nat.zero_add j]; exact h))) ?_
                refine ord_eff0 (eff_mapUpdate (k := (((aget S.pls id dRs).l.getD k emp), o)) 2 (⟨(aget ws (((aget S.pls id dRs).l.getD k emp), o) dHd).val, (aget ws (((aget S.pls id dRs).l.getD k emp), o) dHd).keys, now, (aget ws (((aget S.pls id dRs).l.getD k emp), o) dHd).A, (aget ws (((aget S.pls id dRs).l.getD k emp), o) dHd).c⟩ : Hd) rfl Tryz.underlying159 koN rfl rfl rfl rfl) rfl rfl rfl (.inl rfl) (fun _ _ => ?_)
                refine ord_nil ?_
                refine in_on ?_
                refine thru_on ?_
                refine pk_region ?_
                refine pk_val rfl rfl rfl (val_add rfl rfl rfl (by omega)) ?_
                refine pk_val rfl rfl rfl (val_move rfl rfl) ?_
                refine pk_nil ?_
                refine thru_on ?_
                refine pk_next (x := ⟨j, ws⟩) ((j + 1, aput ws (((aget S.pls id dRs).l.getD k emp), o) ⟨(aget ws (((aget S.pls id dRs).l.getD k emp), o) dHd).val, (aget ws (((aget S.pls id dRs).l.getD k emp), o) dHd).keys, now, (aget ws (((aget S.pls id dRs).l.getD k emp), o) dHd).A, (aget ws (((aget S.pls id dRs).l.getD k emp), o) dHd).c⟩)) ?_ ?_ ?_ ?_
                · (try dsimp only) <;> exact ⟨hj, by rw [← hJ, stampOne_yes h5]⟩
                · (try dsimp only); exact (by omega)
                · exact ⟨(Sub.cons rfl (by first | rfl | (congr 1; omega) | simp) (Sub.cons rfl (by first | rfl | (congr 1; omega) | simp) (Sub.cons rfl (by first | rfl | (congr 1; omega) | simp) (Sub.cons rfl (by first | rfl | (congr 1; omega) | simp) (Sub.cons rfl (by first | rfl | (congr 1; omega) | simp) (Sub.cons rfl (by first | rfl | (congr 1; omega) | simp) (Sub.cons rfl (by first | rfl | (congr 1; omega) | simp) (Sub.cons rfl (by first | rfl | (congr 1; omega) | simp) (Sub.cons rfl (by first | rfl | (congr 1; omega) | simp) (Sub.cons rfl (by first | rfl | (congr 1; omega) | simp) (Sub.nil _))))))))))), rfl⟩
                · exact (fun _ h => by
                  have h1 := (Sats.keep [false, true, true, true, true, true, true, true, true] h)
                  refine Sats.under (fun _ h => Sats.under (fun _ h => ?_) h) h1
                  rw [← aput_map_same (f := hdCh) (v := ⟨(aget ws (((aget S.pls id dRs).l.getD k emp), o) dHd).val, (aget ws (((aget S.pls id dRs).l.getD k emp), o) dHd).keys, now, (aget ws (((aget S.pls id dRs).l.getD k emp), o) dHd).A, (aget ws (((aget S.pls id dRs).l.getD k emp), o) dHd).c⟩) dHd hwh rfl] at h
                  exact h)
              · skip
                refine pk_skip ?_
                refine in_on ?_
                refine thru_on ?_
                refine pk_region ?_
                refine pk_val rfl rfl rfl (val_add rfl rfl rfl (by omega)) ?_
                refine pk_val rfl rfl rfl (val_move rfl rfl) ?_
                refine pk_nil ?_
                refine thru_on ?_
                refine pk_next (x := ⟨j, ws⟩) ((j + 1, ws)) ?_ ?_ ?_ ?_
                · (try dsimp only) <;> exact ⟨hj, by rw [← hJ, stampOne_no h5]⟩
                · (try dsimp only); exact (by omega)
                · exact ⟨(Sub.cons rfl (by first | rfl | (congr 1; omega) | simp) (Sub.cons rfl (by first | rfl | (congr 1; omega) | simp) (Sub.cons rfl (by first | rfl | (congr 1; omega) | simp) (Sub.cons rfl (by first | rfl | (congr 1; omega) | simp) (Sub.cons rfl (by first | rfl | (congr 1; omega) | simp) (Sub.cons rfl (by first | rfl | (congr 1; omega) | simp) (Sub.cons rfl (by first | rfl | (congr 1; omega) | simp) (Sub.cons rfl (by first | rfl | (congr 1; omega) | simp) (Sub.cons rfl (by first | rfl | (congr 1; omega) | simp) (Sub.cons rfl (by first | rfl | (congr 1; omega) | simp) (Sub.nil _))))))))))), rfl⟩
                · exact (fun _ h => Sats.keep [false, true, true, true, true, true, true, true, true] h)
          · skip
            rw [List.drop_eq_nil_of_le (by omega), stampAll] at hJ
            have hcom := hcomI ws hJ
            refine pk_exit ?_
            refine thru ?_
            refine thru ?_
            refine pk_here ?_
            refine in_on ?_
            refine thru_on ?_
            refine pk_region ?_
            refine pk_val rfl rfl rfl (val_add rfl rfl rfl (by omega)) ?_
            refine pk_val rfl rfl rfl (val_move rfl rfl) ?_
            refine pk_nil ?_
            refine thru_on ?_
            refine pk_next (x := ⟨k, vs, las⟩) ((k + 1, ws, aput las ((aget S.pls id dRs).l.getD k emp) id)) ?_ ?_ ?_ ?_
            · (try dsimp only) <;> exact ⟨hk, by rw [foldl_take _ emp hk, ← hI]; exact hcom.symm⟩
            · (try dsimp only); exact (by omega)
            · exact ⟨(Sub.cons rfl (by first | rfl | (congr 1; omega) | simp) (Sub.cons rfl (by first | rfl | (congr 1; omega) | simp) (Sub.cons rfl (by first | rfl | (congr 1; omega) | simp) (Sub.cons rfl (by first | rfl | (congr 1; omega) | simp) (Sub.cons rfl (by first | rfl | (congr 1; omega) | simp) (Sub.cons rfl (by first | rfl | (congr 1; omega) | simp) (Sub.nil _))))))), rfl⟩
            · exact (fun _ h => h)
      · skip
        refine pk_exit ?_
        refine thru ?_
        refine thru ?_
        refine pk_here ?_
        refine thru_on ?_
        refine pk_seq ?_
        refine pk_region ?_
        refine pk_val rfl rfl rfl (val_move rfl rfl) ?_
        refine pk_val rfl rfl rfl (val_nilCheck rfl rfl (Ent.pure rfl)) ?_
        refine pk_val rfl rfl rfl (val_fieldAddr rfl Tryz.underlying164 2 1 (by kernel_rfl) (by decide) rfl (Ent.pure rfl)) ?_
        refine pk_val rfl rfl rfl (val_load rfl Tryz.underlying161 rfl rfl ((Ent.own 0 rfl).rd rfl)) ?_
        refine pk_val rfl rfl rfl (val_move rfl rfl) ?_
        refine pk_val rfl rfl rfl (val_lookup (k := id) dRs rfl Tryz.underlying161 koI (by kernel_rfl) rfl rfl rfl (Ent.map 5 rfl)) ?_
        refine pk_val rfl rfl rfl (val_len_slice rfl Tryz.underlying24 rfl) ?_
        refine pk_val rfl rfl rfl (val_assign rfl rfl) ?_
        refine pk_val rfl rfl rfl (val_assign rfl rfl) ?_
        refine pk_nil ?_
        refine thru_on ?_
        refine pk_ret ?_
        have hkk : k = (aget S.pls id dRs).l.length := by omega
        subst hkk
        rw [List.take_length] at hI
        refine ret2 rfl rfl rfl fun w s => ⟨mk4 S vs las, ?_, ?_, s.to fun _ h => (st_shut (h))⟩
        · show (mk4 S vs las).a = comF S.a id now
          rw [hI, comF, if_pos hok, st_pls]
        · rw [comN, comE, if_pos hok, if_pos hok, ← st_pls] <;> rfl
  · skip
    have hid : decide (65536 ≤ id) = false := decide_eq_false hid
    refine Pk.slot 14 (v := .bool true) rfl (congrArg Value.bool (decide_eq_true (by have := of_decide_eq_false hid; omega))) ?_
    refine pk_val rfl rfl rfl (val_move rfl rfl) ?_
    refine pk_guard_no rfl rfl rfl rfl rfl rfl ?_
    refine pk_guard_no rfl rfl rfl rfl rfl rfl ?_
    refine pk_guard_no rfl rfl rfl rfl rfl rfl ?_
    refine pk_val rfl rfl rfl (val_pick rfl rfl rfl rfl) ?_
    refine pk_nil ?_
    refine thru_on ?_
    refine pk_cond_t rfl ?_
    refine pk_seq ?_
    refine pk_region ?_
    refine pk_val rfl rfl rfl (val_assign rfl rfl) ?_
    refine pk_val rfl rfl rfl (val_assign rfl rfl) ?_
    refine pk_nil ?_
    refine thru_on ?_
    refine pk_ret ?_
    refine thru_ret ?_
    have eno : comOk id now = false := by rw [comOk, hid]; rfl
    refine ret2 rfl rfl rfl fun w s => ⟨S, ?_, ?_, s⟩
    · rw [comF, eno]; rfl
    · rw [comN, comE, eno]; rfl
end Go.Proofs.YtdpckendkklfdaaGreat
