/- The walks of package store, second part: what a store is; New, put, Put. -/
import Derived.Test.YtdpckendkklfdaaGreatFixE
import Derived.Test.YtdpckendkklfdaaGreatStA
set_option linter.unusedVariables false
set_option linter.unusedSimpArgs false
set_option maxRecDepth 100000
namespace Go.Proofs.YtdpckendkklfdaaGreat
open Go.RowKit Go.Proofs.Eng
abbrev Nm := ByteArray × Int
/-- what is held of a version, and where its keys lie -/
structure Hd where
  val : ByteArray
  keys : List ByteArray
  stamp : Int
  A : Option Addr
  c : Nat
def Hd.v (h : Hd) : Value := .agg #[.string h.val, .slice h.A h.keys.length h.c, .int .i64 h.stamp]
def dHd : Hd := ⟨⟨#[]⟩, [], 0, none, 0⟩
structure Ha where
  val : ByteArray
  keys : List ByteArray
  stamp : Int
deriving DecidableEq
def Hd.a (h : Hd) : Ha := ⟨h.val, h.keys, h.stamp⟩
def dHa : Ha := ⟨⟨#[]⟩, [], 0⟩
/-- a row of IDs, a row of keys -/
structure Ri where
  l : List Int
  A : Option Addr
  c : Nat
structure Rs where
  l : List ByteArray
  A : Option Addr
  c : Nat
def Ri.v (r : Ri) : Value := .slice r.A r.l.length r.c
def Rs.v (r : Rs) : Value := .slice r.A r.l.length r.c
def dRi : Ri := ⟨[], none, 0⟩
def dRs : Rs := ⟨[], none, 0⟩
def hdCh (p : Nm × Hd) : Ch := own p.2.A p.2.keys.length p.2.c 9 1 (p.2.keys.map .string)
def riCh (p : ByteArray × Ri) : Ch := own p.2.A p.2.l.length p.2.c 23 1 (p.2.l.map (.int .u64))
def rsCh (p : Int × Rs) : Ch := own p.2.A p.2.l.length p.2.c 9 1 (p.2.l.map .string)
abbrev encN : Int → Value := fun z => .int .u64 z
abbrev encT : ByteArray → Value := fun s => .string s
/-- a store, as it lies in memory -/
structure St where
  m1 : Nat
  m2 : Nat
  m3 : Nat
  m4 : Nat
  vs : List (Nm × Hd)
  ids : List (ByteArray × Ri)
  pls : List (Int × Rs)
  las : List (ByteArray × Int)
def stP (B : Nat) (S : St) : List Ch := [own (some ⟨B, 0, none⟩) 1 1 164 4 [.map (some S.m1), .map (some S.m2), .map (some S.m3), .map (some S.m4)], mapc (some S.m1) (encP .u64) Hd.v S.vs, Eng.cat (S.vs.map hdCh), mapc (some S.m2) encT Ri.v S.ids, Eng.cat (S.ids.map riCh), mapc (some S.m3) encN Rs.v S.pls, Eng.cat (S.pls.map rsCh), mapc (some S.m4) encT encN S.las]
def stCh (B : Nat) (S : St) : Ch := Eng.cat (stP B S)
/-- a store, as data -/
structure Sa where
  vs : List (Nm × Ha)
  ids : List (ByteArray × List Int)
  pls : List (Int × List ByteArray)
  las : List (ByteArray × Int)
def St.a (S : St) : Sa := ⟨mapv Hd.a S.vs, mapv Ri.l S.ids, mapv Rs.l S.pls, S.las⟩
def sa0 : Sa := ⟨[], [], [], []⟩
theorem st_ids (S : St) (k : ByteArray) : (aget S.ids k dRi).l = aget S.a.ids k [] := (aget_mapv Ri.l S.ids k dRi).symm
theorem st_pls (S : St) (k : Int) : (aget S.pls k dRs).l = aget S.a.pls k [] := (aget_mapv Rs.l S.pls k dRs).symm
theorem st_vs (S : St) (k : Nm) : (aget S.vs k dHd).a = aget S.a.vs k dHa := (aget_mapv Hd.a S.vs k dHd).symm
theorem st_has (S : St) (k : Nm) : ahas S.vs k = ahas S.a.vs k := (ahas_mapv Hd.a S.vs k).symm
/-- how long the rows are -/
structure Small (N : Nat) (a : Sa) : Prop where
  ids : ∀ p ∈ a.ids, p.2.length ≤ N
  pls : ∀ p ∈ a.pls, p.2.length ≤ N
  keys : ∀ p ∈ a.vs, p.2.keys.length ≤ 1024
theorem aget_all {K V : Type} [DecidableEq K] {l : List (K × V)} {P : V → Prop} (h : ∀ p ∈ l, P p.2) (k : K) {z : V} (hz : P z) : P (aget l k z) := by
  cases e : ahas l k with
  | true => exact h _ (aget_mem z e)
  | false => rw [aget_not z e]; exact hz
theorem Small.id {N : Nat} {a : Sa} (h : Small N a) (k : ByteArray) : (aget a.ids k []).length ≤ N := aget_all (P := fun l : List Int => l.length ≤ N) h.ids k (Nat.zero_le _)
theorem Small.pl {N : Nat} {a : Sa} (h : Small N a) (k : Int) : (aget a.pls k []).length ≤ N := aget_all (P := fun l : List ByteArray => l.length ≤ N) h.pls k (Nat.zero_le _)
theorem Small.key {N : Nat} {a : Sa} (h : Small N a) (k : Nm) : (aget a.vs k dHa).keys.length ≤ 1024 := aget_all (P := fun l : Ha => l.keys.length ≤ 1024) h.keys k (Nat.zero_le _)
theorem pairOk_name : PairOk Tryz.prog 185 .u64 := ⟨⟨_, _, Tryz.underlying185, by decide, by decide, rfl, rfl, Tryz.underlying9, Tryz.underlying23⟩, by kernel_rfl⟩
theorem koN : KeyOk Tryz.prog 185 (encP .u64) := keyOk_pair pairOk_name
theorem koS : KeyOk Tryz.prog 9 encT := keyOk_string Tryz.underlying9
theorem koI : KeyOk Tryz.prog 23 encN := keyOk_int Tryz.underlying23
theorem ri_nil (k : ByteArray) {L : List Ch} {h : Hp} (s : Sats L h) : Sats (riCh (k, dRi) :: L) h := Sats.nilrow s
theorem rs_nil (k : Int) {L : List Ch} {h : Hp} (s : Sats L h) : Sats (rsCh (k, dRs) :: L) h := Sats.nilrow s
theorem ent_ri {L : List Ch} {l : List (ByteArray × Ri)} (i : Nat) (e : L[i]? = some (Eng.cat (l.map riCh))) (k : ByteArray) : Ent L (RdL (aget l k dRi).A ((aget l k dRi).l.map (.int .u64))) :=
  Ent.row (F := fun (r : Ri) h => RdL r.A (r.l.map (.int .u64)) h) i e k dRi (fun v h o => (own_rd o : RdL v.A (v.l.map (.int .u64)) h)) (fun v h h' le r => RdL.mono r le) (fun _ j v e => by cases e)
theorem ent_rs {L : List Ch} {l : List (Int × Rs)} (i : Nat) (e : L[i]? = some (Eng.cat (l.map rsCh))) (k : Int) : Ent L (RdL (aget l k dRs).A ((aget l k dRs).l.map .string)) :=
  Ent.row (F := fun (r : Rs) h => RdL r.A (r.l.map .string) h) i e k dRs (fun v h o => (own_rd o : RdL v.A (v.l.map .string) h)) (fun v h h' le r => RdL.mono r le) (fun _ j v e => by cases e)
theorem ent_hd {L : List Ch} {l : List (Nm × Hd)} (i : Nat) (e : L[i]? = some (Eng.cat (l.map hdCh))) (k : Nm) : Ent L (RdL (aget l k dHd).A ((aget l k dHd).keys.map .string)) :=
  Ent.row (F := fun (r : Hd) h => RdL r.A (r.keys.map .string) h) i e k dHd (fun v h o => (own_rd o : RdL v.A (v.keys.map .string) h)) (fun v h h' le r => RdL.mono r le) (fun _ j v e => by cases e)
theorem st_open {B : Nat} {S : St} {L : List Ch} {h : Hp} (s : Sats (stCh B S :: L) h) : Sats (stP B S ++ L) h := Sats.cat_open s
theorem st_shut {B : Nat} {S : St} {L : List Ch} {h : Hp} (s : Sats (stP B S ++ L) h) : Sats (stCh B S :: L) h := Sats.cat_shut s
def putV (a : Sa) (n : Nm) (h : Ha) : Sa := ⟨aput a.vs n h, aput a.ids n.1 (insId (aget a.ids n.1 []) n.2), aput a.pls n.2 (aget a.pls n.2 [] ++ [n.1]), a.las⟩
theorem all_aput {K V : Type} [DecidableEq K] {l : List (K × V)} {P : V → Prop} (h : ∀ p ∈ l, P p.2) {k : K} {v : V} (hv : P v) : ∀ p ∈ aput l k v, P p.2 := fun p hp => by
  rcases mem_aput hp with e | e
  · rw [e]; exact hv
  · exact h p e
theorem Small.putV {N : Nat} {a : Sa} (s : Small N a) (n : Nm) {h : Ha} (hk : h.keys.length ≤ 1024) : Small (N + 1) (putV a n h) := by
  refine ⟨all_aput (P := fun l : List Int => l.length ≤ N + 1) (fun p hp => by have := s.ids p hp; omega) ?_, all_aput (P := fun l : List ByteArray => l.length ≤ N + 1) (fun p hp => by have := s.pls p hp; omega) ?_, all_aput (P := fun l : Ha => l.keys.length ≤ 1024) s.keys hk⟩
  · have := s.id n.1
    rw [insId_len]; omega
  · have := s.pl n.2
    rw [List.length_append, List.length_singleton]; omega
theorem store_New_c {E w : World} {L : List Ch} (s : Sat E w L) : Calls Tryz.prog 25 #[] w (GivesX E (fun q : Nat × St => ptr (some ⟨q.1, 0, none⟩) 0) (fun q => stCh q.1 q.2 :: L) (fun q => q.2.a = sa0)) := by
  refine enter (vs := []) Tryz.func25 rfl Tryz.ntmps25 rfl s ?_
  refine pk_seq ?_
  refine pk_region ?_
  refine pk_val rfl rfl rfl (val_assign rfl rfl) ?_
  refine pk_nil ?_
  refine thru_on ?_
  refine pk_seq ?_
  refine pk_region ?_
  refine pk_eff (eff_mapNew (encP .u64) (Hd.v) rfl) rfl rfl rfl (fun b1 _ => ?_)
  refine pk_eff (eff_mapNew encT (Ri.v) rfl) rfl rfl rfl (fun b2 _ => ?_)
  refine pk_eff (eff_mapNew encN (Rs.v) rfl) rfl rfl rfl (fun b3 _ => ?_)
  refine pk_eff (eff_mapNew encT encN rfl) rfl rfl rfl (fun b4 _ => ?_)
  refine pk_val rfl rfl rfl (val_build (z := [.map none, .map none, .map none, .map none]) [(0, 1), (1, 1), (2, 1), (3, 1)] rfl Tryz.underlying164 (by kernel_rfl) (by kernel_rfl) rfl rfl rfl) ?_
  refine pk_eff (eff_box rfl rfl rfl) rfl rfl rfl (fun b6 _ => ?_)
  refine pk_val rfl rfl rfl (val_assign rfl rfl) ?_
  refine pk_nil ?_
  refine thru_on ?_
  refine pk_ret ?_
  refine ret1 rfl rfl fun w s => ⟨(b6, ⟨b1, b2, b3, b4, [], [], [], []⟩), rfl, rfl, s.to fun _ h => st_shut ?_⟩
  have h1 := ((Sats.pick 5 [0, 4, 3, 2, 1] rfl h :))
  exact Sats.under (fun _ h => Sats.under (fun _ h => Sats.cat_nil (Sats.under (fun _ h => Sats.cat_nil (Sats.under (fun _ h => Sats.cat_nil h) h)) h)) h) h1
theorem store_put_c {E w : World} {L : List Ch} {B N : Nat} {S : St} {n : Nm} {hd : Hd} (s : Sat E w (stCh B S :: hdCh (n, hd) :: L)) (hnot : ahas S.vs n = false) (hS : Small N S.a) (hN : N ≤ 1099511627776) :
    Calls Tryz.prog 108 #[ptr (some ⟨B, 0, none⟩) 0, encP .u64 n, hd.v] w (GivesX E (fun _ : St => .tuple #[]) (fun S' => stCh B S' :: L) (fun S' => S'.a = putV S.a n hd.a)) := by
  refine enter (vs := [_, _, _]) Tryz.func108 rfl Tryz.ntmps108 rfl s ?_
  refine Pk.heap (fun _ h => st_open h) ?_
  have hid := hS.id n.1
  have hpl := hS.pl n.2
  rw [← st_ids] at hid
  rw [← st_pls] at hpl
  refine pk_seq ?_
  refine pk_region ?_
  refine pk_eff (eff_box rfl rfl rfl) rfl rfl rfl (fun b4 _ => ?_)
  refine pk_eff (eff_box rfl rfl rfl) rfl rfl rfl (fun b5 _ => ?_)
  refine pk_nil ?_
  refine thru_on ?_
  refine pk_seq ?_
  refine pk_drawk (.val 0 (.val 1 (.val 2 (.val 3 (.val 4 (.val 5 (.eff 6 .nil))))))) 6 [] rfl (by kernel_rfl) (fun _ _ _ _ _ h => h) ?_
  refine ord_val rfl rfl rfl rfl (fun _ h => h) (val_move rfl rfl) ?_
  refine ord_val rfl rfl rfl rfl (fun _ h => h) (val_nilCheck rfl rfl (Ent.pure rfl)) ?_
  refine ord_val rfl rfl rfl rfl (fun _ h => h) (val_fieldAddr rfl Tryz.underlying164 0 1 (by kernel_rfl) (by decide) rfl (Ent.pure rfl)) ?_
  refine ord_val rfl rfl rfl rfl (fun _ h => h) (val_load rfl Tryz.underlying159 rfl rfl ((Ent.own 2 rfl).rd rfl)) ?_
  refine ord_val rfl rfl rfl rfl (fun _ h => h) (val_loads (vs := [.string n.1, .int .u64 n.2]) rfl Tryz.underlying185 rfl (by kernel_rfl) rfl (Ent.pure rfl) ((Ent.own 1 rfl).rds (fun j v h => by rw [Nat.zero_add j]; exact h))) ?_
  refine ord_val rfl rfl rfl rfl (fun _ h => h) (val_loads (vs := [.string hd.val, .slice hd.A hd.keys.length hd.c, .int .i64 hd.stamp]) rfl Tryz.underlying187 rfl (by kernel_rfl) rfl (Ent.pure rfl) ((Ent.own 0 rfl).rds (fun j v h => by rw [Nat.zero_add j]; exact h))) ?_
  refine ord_eff0 (eff_mapUpdate (k := n) 3 hd rfl Tryz.underlying159 koN rfl rfl rfl rfl) rfl rfl rfl (.inl rfl) (fun _ _ => ?_)
  refine ord_nil ?_
  refine thru_on ?_
  refine pk_seq ?_
  refine pk_drawk (.val 0 (.val 1 (.val 2 (.val 3 (.val 4 (.val 5 (.val 6 (.val 7 (.val 8 (.eff 9 (.val 10 (.val 11 (.val 12 (.val 13 (.val 14 .nil))))))))))))))) 1015 [] rfl (by kernel_rfl) (fun _ _ _ _ _ h => h) ?_
  refine ord_val rfl rfl rfl rfl (fun _ h => h) (val_move rfl rfl) ?_
  refine ord_val rfl rfl rfl rfl (fun _ h => h) (val_nilCheck rfl rfl (Ent.pure rfl)) ?_
  refine ord_val rfl rfl rfl rfl (fun _ h => h) (val_fieldAddr rfl Tryz.underlying164 1 1 (by kernel_rfl) (by decide) rfl (Ent.pure rfl)) ?_
  refine ord_val rfl rfl rfl rfl (fun _ h => h) (val_load rfl Tryz.underlying160 rfl rfl ((Ent.own 2 rfl).rd rfl)) ?_
  refine ord_val rfl rfl rfl rfl (fun _ h => h) (val_fieldAddr rfl Tryz.underlying185 0 1 (by kernel_rfl) (by decide) rfl (Ent.pure rfl)) ?_
  refine ord_val rfl rfl rfl rfl (fun _ h => h) (val_load rfl Tryz.underlying9 rfl rfl ((Ent.own 1 rfl).rd rfl)) ?_
  refine ord_val rfl rfl rfl rfl (fun _ h => h) (val_lookup (k := n.1) dRi rfl Tryz.underlying160 koS (by kernel_rfl) rfl rfl rfl (Ent.map 5 rfl)) ?_
  refine ord_val rfl rfl rfl rfl (fun _ h => h) (val_fieldAddr rfl Tryz.underlying185 1 1 (by kernel_rfl) (by decide) rfl (Ent.pure rfl)) ?_
  refine ord_val rfl rfl rfl rfl (fun _ h => h) (val_load rfl Tryz.underlying23 rfl rfl ((Ent.own 1 rfl).rd rfl)) ?_
  refine ord_eff (eff_call1 rfl ⟨_, Tryz.func179, by kernel_rfl, rfl⟩ rfl (fun E w s => BSearch_ID_c s (ent_ri 6 rfl n.1) rfl (by omega))) rfl rfl rfl rfl (.inr fun _ _ => (fun _ h => h)) (fun _ _ => ?_)
  refine ord_val rfl rfl rfl rfl (fun _ h => h) (val_move rfl rfl) ?_
  refine ord_val rfl rfl rfl rfl (fun _ h => h) (val_extract rfl rfl rfl) ?_
  refine ord_val rfl rfl rfl rfl (fun _ h => h) (val_extract rfl rfl rfl) ?_
  refine ord_val rfl rfl rfl rfl (fun _ h => h) (val_assign rfl rfl) ?_
  refine ord_val rfl rfl rfl rfl (fun _ h => h) (val_assign rfl rfl) ?_
  refine ord_nil ?_
  refine thru_on ?_
  refine pk_seq ?_
  refine Pk.pull 6 rfl ?_
  refine Pk.heap (fun _ h => Sats.row_take (f := riCh) n.1 dRi (ri_nil n.1) h) ?_
  dsimp only [riCh]
  refine pk_drawk (.val 0 (.val 1 (.val 2 (.val 3 (.val 4 (.val 5 (.val 6 (.val 7 (.val 8 (.val 9 (.val 10 (.val 11 (.val 12 (.val 13 (.val 14 (.val 15 (.eff 16 (.eff 17 (.eff 18 .nil))))))))))))))))))) 18 [false, true, true, true, true, true, true, true, true, true, true, true] rfl (by kernel_rfl) (fun _ _ _ _ _ h => h) ?_
  refine ord_val rfl rfl rfl rfl (fun _ h => (Sats.keep [false, true, true, true, true, true, true, true, true, true, true, true] h :)) (val_move rfl rfl) ?_
  refine ord_val rfl rfl rfl rfl (fun _ h => (Sats.keep [false, true, true, true, true, true, true, true, true, true, true, true] h :)) (val_nilCheck rfl rfl (Ent.pure rfl)) ?_
  refine ord_val rfl rfl rfl rfl (fun _ h => (Sats.keep [false, true, true, true, true, true, true, true, true, true, true, true] h :)) (val_fieldAddr rfl Tryz.underlying164 1 1 (by kernel_rfl) (by decide) rfl (Ent.pure rfl)) ?_
  refine ord_val rfl rfl rfl rfl (fun _ h => (Sats.keep [false, true, true, true, true, true, true, true, true, true, true, true] h :)) (val_load rfl Tryz.underlying160 rfl rfl ((Ent.own 3 rfl).rd rfl)) ?_
  refine ord_val rfl rfl rfl rfl (fun _ h => (Sats.keep [false, true, true, true, true, true, true, true, true, true, true, true] h :)) (val_fieldAddr rfl Tryz.underlying185 0 1 (by kernel_rfl) (by decide) rfl (Ent.pure rfl)) ?_
  refine ord_val rfl rfl rfl rfl (fun _ h => (Sats.keep [false, true, true, true, true, true, true, true, true, true, true, true] h :)) (val_load rfl Tryz.underlying9 rfl rfl ((Ent.own 2 rfl).rd rfl)) ?_
  refine ord_val rfl rfl rfl rfl (fun _ h => (Sats.keep [false, true, true, true, true, true, true, true, true, true, true, true] h :)) (val_move rfl rfl) ?_
  refine ord_val rfl rfl rfl rfl (fun _ h => (Sats.keep [false, true, true, true, true, true, true, true, true, true, true, true] h :)) (val_nilCheck rfl rfl (Ent.pure rfl)) ?_
  refine ord_val rfl rfl rfl rfl (fun _ h => (Sats.keep [false, true, true, true, true, true, true, true, true, true, true, true] h :)) (val_fieldAddr rfl Tryz.underlying164 1 1 (by kernel_rfl) (by decide) rfl (Ent.pure rfl)) ?_
  refine ord_val rfl rfl rfl rfl (fun _ h => (Sats.keep [false, true, true, true, true, true, true, true, true, true, true, true] h :)) (val_load rfl Tryz.underlying160 rfl rfl ((Ent.own 3 rfl).rd rfl)) ?_
  refine ord_val rfl rfl rfl rfl (fun _ h => (Sats.keep [false, true, true, true, true, true, true, true, true, true, true, true] h :)) (val_fieldAddr rfl Tryz.underlying185 0 1 (by kernel_rfl) (by decide) rfl (Ent.pure rfl)) ?_
  refine ord_val rfl rfl rfl rfl (fun _ h => (Sats.keep [false, true, true, true, true, true, true, true, true, true, true, true] h :)) (val_load rfl Tryz.underlying9 rfl rfl ((Ent.own 2 rfl).rd rfl)) ?_
  refine ord_val rfl rfl rfl rfl (fun _ h => (Sats.keep [false, true, true, true, true, true, true, true, true, true, true, true] h :)) (val_lookup (k := n.1) dRi rfl Tryz.underlying160 koS (by kernel_rfl) rfl rfl rfl (Ent.map 6 rfl)) ?_
  refine ord_val rfl rfl rfl rfl (fun _ h => (Sats.keep [false, true, true, true, true, true, true, true, true, true, true, true] h :)) (val_move rfl rfl) ?_
  refine ord_val rfl rfl rfl rfl (fun _ h => (Sats.keep [false, true, true, true, true, true, true, true, true, true, true, true] h :)) (val_fieldAddr rfl Tryz.underlying185 1 1 (by kernel_rfl) (by decide) rfl (Ent.pure rfl)) ?_
  refine ord_val rfl rfl rfl rfl (fun _ h => (Sats.keep [false, true, true, true, true, true, true, true, true, true, true, true] h :)) (val_load rfl Tryz.underlying23 rfl rfl ((Ent.own 2 rfl).rd rfl)) ?_
  refine ord_eff (eff_buildSlice (len := 1) (sz := 1) (z := #[.int .u64 0]) rfl Tryz.underlying54 (by kernel_rfl) rfl rfl rfl (by decide) (by decide) rfl rfl) rfl rfl rfl rfl (.inr fun _ _ => (fun _ h => (Sats.keep [false, false, true, true, true, true, true, true, true, true, true, true, true] h :))) (fun b43 _ => ?_)
  refine ord_eff (eff_callx rfl ⟨_, Tryz.func180, by kernel_rfl, rfl⟩ rfl (fun E w s => Insert_ID_c (i := idI (aget S.ids n.1 dRi).l n.2) (n := (aget S.ids n.1 dRi).l.length) (xs := (aget S.ids n.1 dRi).l.map (.int .u64)) (u := [.int .u64 n.2]) (s.to (fun _ h => (Sats.pick 13 [1, 0, 2, 3, 4, 5, 6, 7, 8, 9, 10, 11, 12] rfl h :))) (by rw [List.length_map, Nat.mul_one]) rfl (int_one _) rfl (idI_le _ _) (by omega))) rfl rfl rfl rfl (.inr fun _ _ => (fun _ h => (Sats.keep [false, true, true, true, true, true, true, true, true, true, true, true] h :))) (fun q44 _ => ?_)
  refine Pk.slot 44 (v := (⟨insId (aget S.ids n.1 dRi).l n.2, q44.1, q44.2⟩ : Ri).v) rfl (by simp only [Ri.v, insId_len]) ?_
  refine ord_eff0 (eff_mapUpdate (k := n.1) 7 (⟨insId (aget S.ids n.1 dRi).l n.2, q44.1, q44.2⟩ : Ri) rfl Tryz.underlying160 koS rfl rfl rfl rfl) rfl rfl rfl (.inl rfl) (fun _ _ => ?_)
  refine ord_nil ?_
  refine thru_on ?_
  refine Pk.pull 9 rfl ?_
  refine Pk.heap (fun _ h => Sats.row_take (f := rsCh) n.2 dRs (rs_nil n.2) h) ?_
  dsimp only [rsCh]
  refine pk_drawk (.val 0 (.val 1 (.val 2 (.val 3 (.val 4 (.val 5 (.val 6 (.val 7 (.val 8 (.val 9 (.val 10 (.val 11 (.val 12 (.val 13 (.val 14 (.eff 15 (.eff 16 (.eff 17 .nil)))))))))))))))))) 17 [false, true, true, true, true, true, true, true, true, true, true, true, true] rfl (by kernel_rfl) (fun _ _ _ _ _ h => h) ?_
  refine ord_val rfl rfl rfl rfl (fun _ h => (Sats.keep [false, true, true, true, true, true, true, true, true, true, true, true, true] h :)) (val_move rfl rfl) ?_
  refine ord_val rfl rfl rfl rfl (fun _ h => (Sats.keep [false, true, true, true, true, true, true, true, true, true, true, true, true] h :)) (val_nilCheck rfl rfl (Ent.pure rfl)) ?_
  refine ord_val rfl rfl rfl rfl (fun _ h => (Sats.keep [false, true, true, true, true, true, true, true, true, true, true, true, true] h :)) (val_fieldAddr rfl Tryz.underlying164 2 1 (by kernel_rfl) (by decide) rfl (Ent.pure rfl)) ?_
  refine ord_val rfl rfl rfl rfl (fun _ h => (Sats.keep [false, true, true, true, true, true, true, true, true, true, true, true, true] h :)) (val_load rfl Tryz.underlying161 rfl rfl ((Ent.own 5 rfl).rd rfl)) ?_
  refine ord_val rfl rfl rfl rfl (fun _ h => (Sats.keep [false, true, true, true, true, true, true, true, true, true, true, true, true] h :)) (val_fieldAddr rfl Tryz.underlying185 1 1 (by kernel_rfl) (by decide) rfl (Ent.pure rfl)) ?_
  refine ord_val rfl rfl rfl rfl (fun _ h => (Sats.keep [false, true, true, true, true, true, true, true, true, true, true, true, true] h :)) (val_load rfl Tryz.underlying23 rfl rfl ((Ent.own 4 rfl).rd rfl)) ?_
  refine ord_val rfl rfl rfl rfl (fun _ h => (Sats.keep [false, true, true, true, true, true, true, true, true, true, true, true, true] h :)) (val_move rfl rfl) ?_
  refine ord_val rfl rfl rfl rfl (fun _ h => (Sats.keep [false, true, true, true, true, true, true, true, true, true, true, true, true] h :)) (val_nilCheck rfl rfl (Ent.pure rfl)) ?_
  refine ord_val rfl rfl rfl rfl (fun _ h => (Sats.keep [false, true, true, true, true, true, true, true, true, true, true, true, true] h :)) (val_fieldAddr rfl Tryz.underlying164 2 1 (by kernel_rfl) (by decide) rfl (Ent.pure rfl)) ?_
  refine ord_val rfl rfl rfl rfl (fun _ h => (Sats.keep [false, true, true, true, true, true, true, true, true, true, true, true, true] h :)) (val_load rfl Tryz.underlying161 rfl rfl ((Ent.own 5 rfl).rd rfl)) ?_
  refine ord_val rfl rfl rfl rfl (fun _ h => (Sats.keep [false, true, true, true, true, true, true, true, true, true, true, true, true] h :)) (val_fieldAddr rfl Tryz.underlying185 1 1 (by kernel_rfl) (by decide) rfl (Ent.pure rfl)) ?_
  refine ord_val rfl rfl rfl rfl (fun _ h => (Sats.keep [false, true, true, true, true, true, true, true, true, true, true, true, true] h :)) (val_load rfl Tryz.underlying23 rfl rfl ((Ent.own 4 rfl).rd rfl)) ?_
  refine ord_val rfl rfl rfl rfl (fun _ h => (Sats.keep [false, true, true, true, true, true, true, true, true, true, true, true, true] h :)) (val_lookup (k := n.2) dRs rfl Tryz.underlying161 koI (by kernel_rfl) rfl rfl rfl (Ent.map 9 rfl)) ?_
  refine ord_val rfl rfl rfl rfl (fun _ h => (Sats.keep [false, true, true, true, true, true, true, true, true, true, true, true, true] h :)) (val_fieldAddr rfl Tryz.underlying185 0 1 (by kernel_rfl) (by decide) rfl (Ent.pure rfl)) ?_
  refine ord_val rfl rfl rfl rfl (fun _ h => (Sats.keep [false, true, true, true, true, true, true, true, true, true, true, true, true] h :)) (val_load rfl Tryz.underlying9 rfl rfl ((Ent.own 4 rfl).rd rfl)) ?_
  refine ord_eff (eff_buildSlice (len := 1) (sz := 1) (z := #[.string ⟨#[]⟩]) rfl Tryz.underlying24 (by kernel_rfl) rfl rfl rfl (by decide) (by decide) rfl rfl) rfl rfl rfl rfl (.inr fun _ _ => (fun _ h => (Sats.keep [false, false, true, true, true, true, true, true, true, true, true, true, true, true] h :))) (fun b60 _ => ?_)
  refine ord_eff (eff_append1 (sz := 1) (bytes := 16) (z := .string ⟨#[]⟩) 1 rfl Tryz.underlying24 (by kernel_rfl) rfl (by decide) (by decide) rfl rfl rfl (Ent.own 0 rfl) (by rw [List.length_map, Nat.mul_one]) rfl rfl (by omega)) rfl rfl rfl rfl (.inr fun _ _ => (fun _ h => (Sats.keep [false, false, true, true, true, true, true, true, true, true, true, true, true, true] h :))) (fun q61 _ => ?_)
  refine Pk.slot 61 (v := (⟨(aget S.pls n.2 dRs).l ++ [n.1], q61.1, q61.2⟩ : Rs).v) rfl (by simp only [Rs.v, List.length_append, List.length_singleton]) ?_
  refine ord_eff0 (eff_mapUpdate (k := n.2) 11 (⟨(aget S.pls n.2 dRs).l ++ [n.1], q61.1, q61.2⟩ : Rs) rfl Tryz.underlying161 koI rfl rfl rfl rfl) rfl rfl rfl (.inl rfl) (fun _ _ => ?_)
  refine ord_nil ?_
  refine end0 rfl fun w s => ⟨⟨S.m1, S.m2, S.m3, S.m4, aput S.vs n hd, aput S.ids n.1 ⟨insId (aget S.ids n.1 dRi).l n.2, q44.1, q44.2⟩, aput S.pls n.2 ⟨(aget S.pls n.2 dRs).l ++ [n.1], q61.1, q61.2⟩, S.las⟩, ?_, rfl, s.to fun _ h => st_shut ?_⟩
  · simp only [St.a, putV]
    rw [← aput_mapv Hd.a, ← aput_mapv Ri.l, ← aput_mapv Rs.l]
    congr 2
    · rw [st_ids]; rfl
    · rw [st_pls]; rfl
  have h1 := ((Sats.pick 14 [1, 2, 13, 9, 3, 4, 7, 8, 10, 11, 12] rfl h :))
  have h2 := Sats.row_put (f := rsCh) n.2 (⟨(aget S.pls n.2 dRs).l ++ [n.1], q61.1, q61.2⟩ : Rs) (by rw [rsCh, List.length_append, List.map_append]; exact h1)
  have h3 := Sats.under (fun _ hh => by
    have h4 := Sats.cat_snoc (f := hdCh) (l := S.vs) (y := (n, hd)) hh
    rw [← aput_new hd hnot] at h4
    exact Sats.under (fun _ hh => Sats.row_put (f := riCh) n.1 (⟨insId (aget S.ids n.1 dRi).l n.2, q44.1, q44.2⟩ : Ri) (by rw [riCh, insId_len]; (try dsimp only); rw [← insId_map]; exact hh)) h4) h2
  exact Sats.pick 8 [3, 4, 1, 5, 2, 6, 0, 7] rfl h3
end Go.Proofs.YtdpckendkklfdaaGreat
