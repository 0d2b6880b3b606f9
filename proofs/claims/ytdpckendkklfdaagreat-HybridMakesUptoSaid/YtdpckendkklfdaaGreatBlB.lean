/- The walks of package bloom, second part: filters. -/
import Derived.Test.YtdpckendkklfdaaGreatBlA
set_option linter.unusedVariables false
set_option linter.unusedSimpArgs false
set_option maxRecDepth 100000
namespace Go.Proofs.YtdpckendkklfdaaGreat
open Go.RowKit Go.Proofs.Eng
/-- a filter, and where its bits lie -/
structure Fi where
  b : Nat
  h : Nat
  s : List Nat
  A : Option Addr
  c : Nat
def Fi.box (f : Fi) : List Value := [.int .i64 (f.b : Nat), .int .i64 (f.h : Nat), .slice f.A f.s.length f.c]
def fiP (B : Nat) (f : Fi) : List Ch := [own (some ⟨B, 0, none⟩) 1 1 239 3 f.box, own f.A f.s.length f.c 5 1 (f.s.map bV)]
def fiCh (B : Nat) (f : Fi) : Ch := Eng.cat (fiP B f)
structure FiOk (f : Fi) : Prop where
  b1 : 1 ≤ f.b
  b2 : f.b ≤ 65536
  h1 : 1 ≤ f.h
  h2 : f.h ≤ 16
  len : f.s.length = sizN f.b
  byt : Byt f.s
structure FiIn (L : List Ch) (B : Nat) (f : Fi) : Prop where
  box : Ent L (RdL (some ⟨B, 0, none⟩) f.box)
  row : Ent L (RdL f.A (f.s.map bV))
theorem FiIn.cons {c : Ch} {L : List Ch} {B : Nat} {f : Fi} (h : FiIn L B f) : FiIn (c :: L) B f := ⟨h.box.cons, h.row.cons⟩
theorem fi_in {L : List Ch} {B : Nat} {f : Fi} (i : Nat) (h : L[i]? = some (fiCh B f)) : FiIn L B f :=
  ⟨Ent.at i h (fun h o => by
      have s := Sats.cat_open (L := []) (A := fiP B f) ⟨h, fun _ => none, Le.refl _, (fun _ _ e => by cases e), (fun _ => .inr rfl), o, trivial⟩
      obtain ⟨h1, h2, x, y, z, p, q⟩ := s
      exact (own_rd p).mono x) (fun _ _ l r => r.mono l),
   Ent.at i h (fun h o => by
      have s := Sats.cat_open (L := []) (A := fiP B f) ⟨h, fun _ => none, Le.refl _, (fun _ _ e => by cases e), (fun _ => .inr rfl), o, trivial⟩
      obtain ⟨h1, h2, x, y, z, p, q⟩ := s.tail
      exact (own_rd p).mono x) (fun _ _ l r => r.mono l)⟩
theorem fi_open {B : Nat} {f : Fi} {L : List Ch} {h : Hp} (s : Sats (fiCh B f :: L) h) : Sats (fiP B f ++ L) h := Sats.cat_open s
theorem fi_shut {B : Nat} {f : Fi} {L : List Ch} {h : Hp} (s : Sats (fiP B f ++ L) h) : Sats (fiCh B f :: L) h := Sats.cat_shut s
def zer (b : Nat) : List Nat := List.replicate (sizN b) 0
theorem byt_zer (b : Nat) : Byt (zer b) := fun x hx => by
  have := (List.mem_replicate.1 hx).2
  omega
theorem foldl_take_b {s : List Nat} (d : Nat) {l : List Nat} {k : Nat} (h : k < l.length) : (l.take (k + 1)).foldl addB s = addB ((l.take k).foldl addB s) (l.getD k d) := by
  rw [List.take_succ_eq_append_getElem h, List.foldl_append]; simp [h]
theorem div_lt_siz {p b : Nat} (h : p < b) : p / 8 < sizN b := by unfold sizN; omega
theorem bloom_New_no {E w : World} {L : List Ch} {b h : Int} (s : Sat E w L) (hm : mayF b h = false) : Calls Tryz.prog 64 #[.int .i64 b, .int .i64 h] w (Gives E (.tuple #[.pointer none, .int .i64 1]) L) := by
  refine enter (vs := [_, _]) Tryz.func64 rfl Tryz.ntmps64 rfl s ?_
  refine pk_seq ?_
  refine pk_region ?_
  refine pk_val rfl rfl rfl (val_assign rfl rfl) ?_
  refine pk_val rfl rfl rfl (val_assign rfl rfl) ?_
  refine pk_nil ?_
  refine thru_on ?_
  refine pk_seq ?_
  refine pk_region ?_
  refine pk_val rfl rfl rfl (val_move rfl rfl) ?_
  refine pk_val rfl rfl rfl (val_move rfl rfl) ?_
  refine pk_val rfl rfl rfl (val_build (z := [.int .i64 0, .int .i64 0]) [(0, 1), (1, 1)] rfl Tryz.underlying236 (by kernel_rfl) (by kernel_rfl) rfl rfl rfl) ?_
  refine pk_eff (eff_alloc (z := [.int .i64 0, .int .i64 0]) rfl (by kernel_rfl)) rfl rfl rfl (fun b6 _ => ?_)
  refine pk_eff0 (eff_storeW 0 rfl rfl rfl rfl rfl (by kernel_rfl) rfl rfl rfl) rfl rfl (fun _ _ => ?_)
  refine pk_nil ?_
  refine thru_on ?_
  refine pk_seq ?_
  refine pk_seq ?_
  refine pk_region ?_
  refine pk_val rfl rfl rfl (val_loads rfl Tryz.underlying236 rfl (by kernel_rfl) rfl (Ent.pure rfl) ((Ent.own 0 rfl).rds (fun j v h => by rw [Nat.zero_add j]; exact h))) ?_
  refine pk_eff (eff_call1 rfl ⟨_, Tryz.func149, by kernel_rfl, rfl⟩ rfl (fun E w s => bloom_may_c s)) rfl rfl rfl (fun _ _ => ?_)
  refine pk_val rfl rfl rfl (val_not rfl rfl) ?_
  refine pk_nil ?_
  refine thru_on ?_
  refine pk_ifn rfl (fun h => ?_) (fun h => ?_)
  · skip
    refine pk_seq ?_
    refine pk_region ?_
    refine pk_val rfl rfl rfl (val_assign rfl rfl) ?_
    refine pk_val rfl rfl rfl (val_assign rfl rfl) ?_
    refine pk_nil ?_
    refine thru_on ?_
    refine pk_ret ?_
    refine thru_ret ?_
    refine ret2 rfl rfl rfl fun w s => ⟨rfl, s.to (fun _ h => Sats.keep [false] h)⟩
  · skip
    rw [hm] at h; cases h
theorem bloom_New_c {E w : World} {L : List Ch} {b h : Nat} (s : Sat E w L) (hm : mayF ((b : Nat) : Int) ((h : Nat) : Int) = true) : Calls Tryz.prog 64 #[.int .i64 b, .int .i64 h] w (GivesX E (fun q : Nat × Nat => .tuple #[ptr (some ⟨q.1, 0, none⟩) 0, .int .i64 0]) (fun q => fiCh q.1 ⟨b, h, zer b, some ⟨q.2, 0, none⟩, sizN b⟩ :: L) (fun _ => True)) := by
  refine enter (vs := [_, _]) Tryz.func64 rfl Tryz.ntmps64 rfl s ?_
  have hmm := (mayF_iff _ _).1 hm
  have hsz : sizN b ≤ 8200 := by unfold sizN; omega
  refine pk_seq ?_
  refine pk_region ?_
  refine pk_val rfl rfl rfl (val_assign rfl rfl) ?_
  refine pk_val rfl rfl rfl (val_assign rfl rfl) ?_
  refine pk_nil ?_
  refine thru_on ?_
  refine pk_seq ?_
  refine pk_region ?_
  refine pk_val rfl rfl rfl (val_move rfl rfl) ?_
  refine pk_val rfl rfl rfl (val_move rfl rfl) ?_
  refine pk_val rfl rfl rfl (val_build (z := [.int .i64 0, .int .i64 0]) [(0, 1), (1, 1)] rfl Tryz.underlying236 (by kernel_rfl) (by kernel_rfl) rfl rfl rfl) ?_
  refine pk_eff (eff_alloc (z := [.int .i64 0, .int .i64 0]) rfl (by kernel_rfl)) rfl rfl rfl (fun b6 _ => ?_)
  refine pk_eff0 (eff_storeW 0 rfl rfl rfl rfl rfl (by kernel_rfl) rfl rfl rfl) rfl rfl (fun _ _ => ?_)
  refine pk_nil ?_
  refine thru_on ?_
  refine pk_seq ?_
  refine pk_seq ?_
  refine pk_region ?_
  refine pk_val rfl rfl rfl (val_loads rfl Tryz.underlying236 rfl (by kernel_rfl) rfl (Ent.pure rfl) ((Ent.own 0 rfl).rds (fun j v h => by rw [Nat.zero_add j]; exact h))) ?_
  refine pk_eff (eff_call1 rfl ⟨_, Tryz.func149, by kernel_rfl, rfl⟩ rfl (fun E w s => bloom_may_c s)) rfl rfl rfl (fun _ _ => ?_)
  refine pk_val rfl rfl rfl (val_not rfl rfl) ?_
  refine pk_nil ?_
  refine thru_on ?_
  refine pk_ifn rfl (fun h_ => ?_) (fun h_ => ?_)
  · skip
    rw [hm] at h_; cases h_
  · skip
    refine pk_skip ?_
    refine thru_on ?_
    refine pk_seq ?_
    refine pk_drawk (.val 0 (.val 1 (.eff 2 (.eff 3 (.val 4 (.eff 5 (.val 6 (.val 7 .nil)))))))) 1008 [] rfl (by kernel_rfl) (fun _ _ _ _ _ h => h) ?_
    refine ord_val rfl rfl rfl rfl (fun _ h => h) (val_loads (vs := [.int .i64 b, .int .i64 h]) rfl Tryz.underlying236 rfl (by kernel_rfl) rfl (Ent.pure rfl) ((Ent.own 0 rfl).rds (fun j v h => by rw [Nat.zero_add j]; exact h))) ?_
    refine ord_val rfl rfl rfl rfl (fun _ h => h) (val_loads (vs := [.int .i64 b, .int .i64 h]) rfl Tryz.underlying236 rfl (by kernel_rfl) rfl (Ent.pure rfl) ((Ent.own 0 rfl).rds (fun j v h => by rw [Nat.zero_add j]; exact h))) ?_
    refine ord_eff (eff_call1 rfl ⟨_, Tryz.func150, by kernel_rfl, rfl⟩ rfl (fun E w s => bloom_size_c s (by omega))) rfl rfl rfl rfl (.inr fun _ _ => (fun _ h => h)) (fun _ _ => ?_)
    refine ord_eff (eff_make1 (z := .int .u8 0) (zc := .int .u8 0) (bytes := 1) (l := sizN b) (c := sizN b) rfl Tryz.underlying28 (by kernel_rfl) rfl rfl rfl rfl rfl (Nat.le_refl _) (by omega) (by omega)) rfl rfl rfl rfl (.inr fun _ _ => (fun _ h => (Sats.keep [false, true] h :))) (fun b16 _ => ?_)
    refine ord_val rfl rfl rfl rfl (fun _ h => (Sats.keep [false, true] h :)) (val_build (z := [.int .i64 0, .int .i64 0, .slice none 0 0]) [(0, 2), (2, 1)] rfl Tryz.underlying239 (by kernel_rfl) (by kernel_rfl) rfl rfl rfl) ?_
    refine ord_eff (eff_box rfl rfl rfl) rfl rfl rfl rfl (.inr fun _ _ => (fun _ h => (Sats.keep [false, false, true] h :))) (fun b18 _ => ?_)
    refine ord_val rfl rfl rfl rfl (fun _ h => (Sats.keep [false, false, true] h :)) (val_assign rfl rfl) ?_
    refine ord_val rfl rfl rfl rfl (fun _ h => (Sats.keep [false, false, true] h :)) (val_assign rfl rfl) ?_
    refine ord_nil ?_
    refine thru_on ?_
    refine pk_ret ?_
    refine ret2 rfl rfl rfl fun w s => ⟨(b18, b16), trivial, ?_, s.to fun _ h => fi_shut ?_⟩
    · simp
    have h1 := (Sats.keep [true, true, false] h)
    have e : (zer b).length = sizN b := List.length_replicate
    simp only [fiP, Fi.box, e]
    rw [show (zer b).map bV = List.replicate (sizN b) (.int .u8 0) by simp [zer]]
    exact h1
theorem bloom_Add_c {E w : World} {L : List Ch} {B : Nat} {f : Fi} {t : ByteArray} (s : Sat E w (fiCh B f :: L)) (hf : FiOk f) (ht : t.size ≤ 4611686018427387904) :
    Calls Tryz.prog 67 #[ptr (some ⟨B, 0, none⟩) 0, .string t] w (Gives E (.tuple #[]) (fiCh B ⟨f.b, f.h, addT f.s f.b f.h t, f.A, f.c⟩ :: L)) := by
  refine enter (vs := [_, _]) Tryz.func67 rfl Tryz.ntmps67 rfl s ?_
  have hfh := hf.h2
  refine Pk.heap (fun _ h => fi_open h) ?_
  refine pk_seq ?_
  refine pk_region ?_
  refine pk_val rfl rfl rfl (val_move rfl rfl) ?_
  refine pk_val rfl rfl rfl (val_nilCheck rfl rfl (Ent.pure rfl)) ?_
  refine pk_val rfl rfl rfl (val_fieldAddr rfl Tryz.underlying239 0 2 (by kernel_rfl) (by decide) rfl (Ent.pure rfl)) ?_
  refine pk_val rfl rfl rfl (val_loads (vs := [.int .i64 (f.b : Nat), .int .i64 (f.h : Nat)]) rfl Tryz.underlying236 rfl (by kernel_rfl) rfl (Ent.pure rfl) ((Ent.own 0 rfl).rds (fun j v h => by
    match j, h with
    | 0, h => exact h
    | 1, h => exact h))) ?_
  refine pk_val rfl rfl rfl (val_move rfl rfl) ?_
  refine pk_eff (eff_callx rfl ⟨_, Tryz.func152, by kernel_rfl, rfl⟩ rfl (fun E w s => bloom_places_c s hf.b1 hf.b2 hf.h2 ht)) rfl rfl rfl (fun q11 _ => ?_)
  refine pk_val rfl rfl rfl (val_len_slice rfl Tryz.underlying241 rfl) ?_
  refine pk_val rfl rfl rfl (val_move rfl rfl) ?_
  refine pk_nil ?_
  refine thru_on ?_
  refine pk_block ?_
  refine pk_loop (α := Nat) (0) (fun k => [(0, ptr (some ⟨B, 0, none⟩) 0), (11, .slice q11.1 f.h q11.2), (12, .int .i64 (f.h : Nat)), (13, .int .i64 (k : Nat))]) (fun k => (own (some ⟨B, 0, none⟩) 1 1 239 3 f.box) :: (own f.A f.s.length f.c 5 1 ((((plN t f.b f.h).take k).foldl addB f.s).map bV)) :: (own q11.1 f.h q11.2 3 1 ((plN t f.b f.h).map pV)) :: L) (fun k => k ≤ f.h) (fun k => f.h - k) ?_ ?_ ?_ ?_
  · (try dsimp only) <;> exact Nat.zero_le _
  · exact ⟨(Sub.cons rfl (by first | rfl | (congr 1; omega) | simp) (Sub.cons rfl (by first | rfl | (congr 1; omega) | simp) (Sub.cons rfl (by first | rfl | (congr 1; omega) | simp) (Sub.cons rfl (by first | rfl | (congr 1; omega) | simp) (Sub.nil _))))), rfl⟩
  · exact (fun _ h => (Sats.pick 3 [1, 2, 0] rfl h :))
  rintro k hk0
  obtain ⟨sk, hsk⟩ : ∃ sk, sk = ((plN t f.b f.h).take k).foldl addB f.s := ⟨_, rfl⟩
  have hskl : sk.length = f.s.length := by rw [hsk, addL_len]
  have hskb : Byt sk := by rw [hsk]; exact Byt.addL _ hf.byt
  rw [← hsk]
  refine pk_seq ?_
  refine pk_region ?_
  refine pk_val rfl rfl rfl (val_lss rfl rfl rfl) ?_
  refine pk_nil ?_
  refine thru_on ?_
  refine pk_seq ?_
  refine pk_if rfl (fun h => ?_) (fun h => ?_)
  · skip
    refine pk_skip ?_
    refine thru_on ?_
    have hk : k < f.h := by omega
    have hkl : k < (plN t f.b f.h).length := by rw [plN_len]; exact hk
    obtain ⟨p, hp⟩ : ∃ p, p = (plN t f.b f.h).getD k 0 := ⟨_, rfl⟩
    have hpb : p < f.b := by rw [hp]; exact plN_lt hf.b1 (getD_mem 0 hkl)
    have hfb := hf.b2
    have hp8 : p / 8 < sk.length := by rw [hskl, hf.len]; exact div_lt_siz hpb
    have hpm : p % 8 < 8 := Nat.mod_lt _ (by decide)
    refine Pk.tells ((Ent.own 2 rfl).some_of (by rw [List.length_map, plN_len]; omega)) fun hA => ?_
    refine Pk.tells ((Ent.own 1 rfl).some_of (by rw [List.length_map]; omega)) fun hR => ?_
    have hgb := hskb.getD (p / 8)
    refine pk_seq ?_
    refine pk_block ?_
    refine pk_seq ?_
    refine pk_region ?_
    refine pk_val rfl rfl rfl (val_indexAddr rfl Tryz.underlying241 1 (by kernel_rfl) rfl rfl k rfl hk (Ent.pure hA)) ?_
    refine pk_val rfl rfl rfl (val_load (v := pV p) rfl Tryz.underlying3 rfl rfl ((Ent.own 2 rfl).rd (by rw [hp]; exact get_map 0 hkl))) ?_
    refine pk_val rfl rfl rfl (val_assign rfl rfl) ?_
    refine pk_nil ?_
    refine thru_on ?_
    refine pk_drawk (.val 0 (.val 1 (.val 2 (.val 3 (.val 4 (.val 5 (.val 6 (.val 7 (.val 8 (.val 9 (.val 10 (.val 11 (.val 12 (.eff 13 .nil)))))))))))))) 13 [] rfl (by kernel_rfl) (fun _ _ _ _ _ h => h) ?_
    refine ord_val rfl rfl rfl rfl (fun _ h => h) (val_move rfl rfl) ?_
    refine ord_val rfl rfl rfl rfl (fun _ h => h) (val_nilCheck rfl rfl (Ent.pure rfl)) ?_
    refine ord_val rfl rfl rfl rfl (fun _ h => h) (val_fieldAddr rfl Tryz.underlying239 2 1 (by kernel_rfl) (by decide) rfl (Ent.pure rfl)) ?_
    refine ord_val rfl rfl rfl rfl (fun _ h => h) (val_load (v := .slice f.A f.s.length f.c) rfl Tryz.underlying28 rfl rfl ((Ent.own 0 rfl).rd rfl)) ?_
    refine ord_val rfl rfl rfl rfl (fun _ h => h) (val_move rfl rfl) ?_
    refine ord_val rfl rfl rfl rfl (fun _ h => h) (val_quow rfl rfl rfl (by decide)) ?_
    refine ord_val rfl rfl rfl rfl (fun _ h => h) (val_indexAddr rfl Tryz.underlying28 1 (by kernel_rfl) rfl rfl (p / 8) (by rw [Int.tdiv_eq_ediv_of_nonneg (by omega), wrap_i64 (by omega)]; omega) (by omega) (Ent.pure hR)) ?_
    refine ord_val rfl rfl rfl rfl (fun _ h => h) (val_load rfl Tryz.underlying5 rfl rfl ((Ent.own 1 rfl).rd (get_map (f := bV) 0 hp8))) ?_
    refine ord_val rfl rfl rfl rfl (fun _ h => h) (val_move rfl rfl) ?_
    refine ord_val rfl rfl rfl rfl (fun _ h => h) (val_remw rfl rfl rfl (by decide)) ?_
    refine ord_val rfl rfl rfl rfl (fun _ h => h) (val_shlw rfl rfl rfl (by rw [Int.tmod_eq_emod_of_nonneg (by omega)]; omega)) ?_
    refine ord_val rfl rfl rfl rfl (fun _ h => h) (val_orw rfl rfl rfl) ?_
    refine Pk.slot 28 (v := .int .u8 ((sk.getD (p / 8) 0 ||| 2 ^ (p % 8) : Nat) : Int)) rfl (by rw [show ((p : Int).tmod 8) = ((p % 8 : Nat) : Int) by rw [Int.tmod_eq_emod_of_nonneg (by omega)]; omega, u8_shl hpm, u8_or hgb (Nat.lt_of_lt_of_le (Nat.pow_lt_pow_right (by decide) hpm) (by decide))]) ?_
    refine ord_val rfl rfl rfl rfl (fun _ h => h) (val_indexAddr rfl Tryz.underlying28 1 (by kernel_rfl) rfl rfl (p / 8) (by rw [Int.tdiv_eq_ediv_of_nonneg (by omega), wrap_i64 (by omega)]; omega) (by omega) (Ent.pure hR)) ?_
    refine ord_eff0 (eff_store 1 rfl rfl rfl rfl rfl (by kernel_rfl) rfl (by rw [List.length_map]; simp only [List.length_singleton]; omega) (by simp)) rfl rfl rfl (.inl rfl) (fun _ _ => ?_)
    refine ord_nil ?_
    refine in_on ?_
    refine thru_on ?_
    refine pk_region ?_
    refine pk_val rfl rfl rfl (val_add rfl rfl rfl (by omega)) ?_
    refine pk_val rfl rfl rfl (val_move rfl rfl) ?_
    refine pk_nil ?_
    refine thru_on ?_
    refine pk_next (x := k) (k + 1) ?_ ?_ ?_ ?_
    · (try dsimp only) <;> exact hk
    · (try dsimp only); exact (by omega)
    · exact ⟨(Sub.cons rfl (by first | rfl | (congr 1; omega) | simp) (Sub.cons rfl (by first | rfl | (congr 1; omega) | simp) (Sub.cons rfl (by first | rfl | (congr 1; omega) | simp) (Sub.cons rfl (by first | rfl | (congr 1; omega) | simp) (Sub.nil _))))), rfl⟩
    · exact (fun _ h => by
      have h1 := (h)
      have e : ((plN t f.b f.h).take (k + 1)).foldl addB f.s = addB sk p := by rw [foldl_take_b 0 hkl, ← hsk, ← hp]
      rw [e]
      have e2 : splice (sk.map bV) (p / 8 * 1) [.int .u8 ((sk.getD (p / 8) 0 ||| 2 ^ (p % 8) : Nat) : Int)] = (addB sk p).map bV := by rw [Nat.mul_one, splice_one (by rw [List.length_map]; exact hp8), addB, List.map_set]
      rw [← e2]
      exact h1)
  · skip
    refine pk_exit ?_
    refine thru ?_
    refine thru ?_
    refine pk_here ?_
    have hkk : k = f.h := by omega
    refine end0 rfl fun w s => ⟨rfl, s.to fun _ h => fi_shut ?_⟩
    have h1 := (Sats.keep [true, true, false] h)
    rw [hsk, hkk, List.take_of_length_le (by rw [plN_len]; exact Nat.le_refl _)] at h1
    have e : (addT f.s f.b f.h t).length = f.s.length := addT_len _ _ _ _
    simp only [fiP, Fi.box, e]
    exact h1
theorem dummy_blb : True := trivial
end Go.Proofs.YtdpckendkklfdaaGreat
