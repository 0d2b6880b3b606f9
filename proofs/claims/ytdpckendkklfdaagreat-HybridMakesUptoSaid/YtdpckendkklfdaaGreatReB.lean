/- The walks of rampartref27's Add and Bytes; that the two ways of packing give the same bytes. -/
import Derived.Test.YtdpckendkklfdaaGreatReA
set_option linter.unusedVariables false
set_option linter.unusedSimpArgs false
set_option maxRecDepth 100000
namespace Go.Proofs.YtdpckendkklfdaaGreat
open Go.RowKit Go.Proofs.Eng
theorem hasB_addB {s : List Nat} {p i : Nat} (hp : p / 8 < s.length) : hasB (addB s p) i = (decide (i = p) || hasB s i) := by
  unfold hasB addB
  by_cases e : i / 8 = p / 8
  · rw [e]
    have e1 : (s.set (p / 8) (s.getD (p / 8) 0 ||| 2 ^ (p % 8))).getD (p / 8) 0 = s.getD (p / 8) 0 ||| 2 ^ (p % 8) := by simp [hp]
    rw [e1, Nat.testBit_or, Nat.testBit_two_pow]
    have : (p % 8 = i % 8) ↔ i = p := by omega
    simp only [this, Bool.or_comm]
  · have e1 : (s.set (p / 8) (s.getD (p / 8) 0 ||| 2 ^ (p % 8))).getD (i / 8) 0 = s.getD (i / 8) 0 := by
      simp only [List.getD_eq_getElem?_getD]
      rw [List.getElem?_set_ne (fun h => e h.symm)]
    have : ¬ i = p := fun h => e (by rw [h])
    rw [e1]; simp [this]
theorem bytes_ext {s t : List Nat} (hl : s.length = t.length) (hs : Byt s) (ht : Byt t) (h : ∀ i, i < 8 * s.length → hasB s i = hasB t i) : s = t := by
  apply List.ext_getElem hl
  intro k h1 h2
  apply Nat.eq_of_testBit_eq
  intro j
  have a1 : s.getD k 0 = s[k] := by simp [h1]
  have a2 : t.getD k 0 = t[k] := by simp [h2]
  by_cases hj : j < 8
  · have := h (8 * k + j) (by omega)
    unfold hasB at this
    rw [show (8 * k + j) / 8 = k by omega, show (8 * k + j) % 8 = j by omega, a1, a2] at this
    exact this
  · have b1 := hs _ (List.getElem_mem h1)
    have b2 := ht _ (List.getElem_mem h2)
    have hp : 2 ^ 8 ≤ 2 ^ j := Nat.pow_le_pow_right (by decide) (by omega)
    rw [Nat.testBit_lt_two_pow (by omega), Nat.testBit_lt_two_pow (by omega)]
/-- a row of bits and bytes that hold it -/
structure Same (b : Nat) (on : List Bool) (s : List Nat) : Prop where
  onl : on.length = b
  len : s.length = sizN b
  byt : Byt s
  bit : ∀ i, i < 8 * sizN b → hasB s i = (decide (i < b) && on.getD i false)
theorem Same.unique {b : Nat} {on : List Bool} {s t : List Nat} (h : Same b on s) (k : Same b on t) : s = t :=
  bytes_ext (h.len.trans k.len.symm) h.byt k.byt fun i hi => by rw [h.bit i (by rw [← h.len]; exact hi), k.bit i (by rw [← h.len]; exact hi)]
theorem hasB_zer (b i : Nat) : hasB (zer b) i = false := by
  have e : (zer b).getD (i / 8) 0 = 0 := by simp [zer, List.getElem?_replicate]; split <;> rfl
  rw [hasB, e, Nat.zero_testBit]
theorem Same.zero (b : Nat) : Same b (List.replicate b false) (zer b) := by
  refine ⟨List.length_replicate, List.length_replicate, byt_zer b, fun i hi => ?_⟩
  have e : (zer b).getD (i / 8) 0 = 0 := by simp [zer, List.getElem?_replicate]; split <;> rfl
  have e2 : (List.replicate b false).getD i false = false := by simp [List.getElem?_replicate]; split <;> rfl
  rw [hasB, e, e2]; simp
theorem Same.add {b p : Nat} {on : List Bool} {s : List Nat} (h : Same b on s) (hp : p < b) : Same b (on.set p true) (addB s p) := by
  refine ⟨by rw [List.length_set]; exact h.onl, by rw [addB_len]; exact h.len, h.byt.addB p, fun i hi => ?_⟩
  rw [hasB_addB (by rw [h.len]; exact div_lt_siz hp), h.bit i hi]
  by_cases e : i = p
  · subst e
    have : (on.set i true).getD i false = true := by simp [h.onl, hp]
    rw [this]; simp [hp]
  · have : (on.set p true).getD i false = on.getD i false := by
      simp only [List.getD_eq_getElem?_getD]
      rw [List.getElem?_set_ne (fun q => e q.symm)]
    rw [this]; simp [e]
theorem Same.addL {b : Nat} : ∀ (l : List Nat) {on : List Bool} {s : List Nat}, Same b on s → (∀ p ∈ l, p < b) → Same b (onL on l) (l.foldl addB s)
  | [], _, _, h, _ => h
  | p :: r, _, _, h, hl => Same.addL r (h.add (hl p (by simp))) (fun q hq => hl q (by simp [hq]))
theorem Same.addT {b : Nat} {on : List Bool} {s : List Nat} (h : Same b on s) (hb : 0 < b) (k : Nat) (t : ByteArray) : Same b (onT on b k t) (addT s b k t) :=
  Same.addL _ h fun p hp => plN_lt hb hp
def onK (on : List Bool) (b h : Nat) (ks : List ByteArray) : List Bool := ks.foldl (fun on t => onT on b h t) on
theorem Same.addK {b : Nat} (hb : 0 < b) (k : Nat) : ∀ (ks : List ByteArray) {on : List Bool} {s : List Nat}, Same b on s → Same b (onK on b k ks) (Go.Proofs.YtdpckendkklfdaaGreat.addK s b k ks)
  | [], _, _, h => h
  | t :: r, _, _, h => Same.addK hb k r (h.addT hb k t)
def packK (b : Nat) (on : List Bool) (k : Nat) : List Nat := (List.range k).foldl (fun s i => if on.getD i false = true then addB s i else s) (zer b)
theorem packK_succ (b : Nat) (on : List Bool) (k : Nat) : packK b on (k + 1) = if on.getD k false = true then addB (packK b on k) k else packK b on k := by
  rw [packK, List.range_succ, List.foldl_append]; rfl
theorem packK_spec {b : Nat} {on : List Bool} : ∀ (k : Nat), k ≤ b → (packK b on k).length = sizN b ∧ Byt (packK b on k) ∧ ∀ i, i < 8 * sizN b → hasB (packK b on k) i = (decide (i < k) && on.getD i false)
  | 0, _ => ⟨List.length_replicate, byt_zer b, fun i hi => (hasB_zer b i).trans (by simp)⟩
  | k + 1, hk => by
    obtain ⟨h1, h2, h3⟩ := packK_spec (b := b) (on := on) k (by omega)
    rw [packK_succ]
    split
    · rename_i hon
      refine ⟨by rw [addB_len]; exact h1, h2.addB k, fun i hi => ?_⟩
      rw [hasB_addB (by rw [h1]; exact div_lt_siz (by omega)), h3 i hi]
      by_cases e : i = k
      · subst e; simp [hon] at *; simp [hon]
      · have e1 : (i < k + 1) ↔ i < k := by omega
        simp [e, e1]
    · rename_i hon
      refine ⟨h1, h2, fun i hi => ?_⟩
      rw [h3 i hi]
      by_cases e : i = k
      · subst e
        have : on.getD i false = false := by simpa using hon
        rw [this]; simp
      · have e1 : (i < k + 1) ↔ i < k := by omega
        simp [e1]
theorem pack_same {b : Nat} {on : List Bool} (h : on.length = b) : Same b on (packK b on b) := by
  obtain ⟨h1, h2, h3⟩ := packK_spec (b := b) (on := on) b (Nat.le_refl _)
  exact ⟨h, h1, h2, h3⟩
theorem pack_addK {b : Nat} (hb : 0 < b) (k : Nat) (ks : List ByteArray) : packK b (onK (List.replicate b false) b k ks) b = addK (zer b) b k ks := by
  have h := Same.addK hb k ks (Same.zero b)
  exact (pack_same h.onl).unique h
theorem ref27_Add_c {E w : World} {L : List Ch} {B : Nat} {f : Rf} {t : ByteArray} (s : Sat E w (rfCh B f :: L)) (hf : RfOk f) (ht : t.size ≤ 4611686018427387904) :
    Calls Tryz.prog 72 #[ptr (some ⟨B, 0, none⟩) 0, .string t] w (Gives E (.tuple #[]) (rfCh B ⟨f.b, f.h, onT f.on f.b f.h t, f.A, f.c⟩ :: L)) := by
  refine enter (vs := [_, _]) Tryz.func72 rfl Tryz.ntmps72 rfl s ?_
  have hmay : mayF (f.b : Int) (f.h : Int) = true := (mayF_iff _ _).2 (by have := hf.b1; have := hf.b2; have := hf.h1; have := hf.h2; omega)
  have hh2 := hf.h2
  have hfb := hf.b2
  refine Pk.heap (fun _ h => rf_open h) ?_
  refine pk_seq ?_
  refine pk_drawk (.val 0 (.val 1 (.val 2 (.val 3 (.val 4 (.val 5 (.val 6 (.val 7 (.val 8 (.eff 9 (.val 10 (.val 11 (.val 12 (.val 13 (.val 14 .nil))))))))))))))) 1015 [] rfl (by kernel_rfl) (fun _ _ _ _ _ h => h) ?_
  refine ord_val rfl rfl rfl rfl (fun _ h => h) (val_move rfl rfl) ?_
  refine ord_val rfl rfl rfl rfl (fun _ h => h) (val_move rfl rfl) ?_
  refine ord_val rfl rfl rfl rfl (fun _ h => h) (val_nilCheck rfl rfl (Ent.pure rfl)) ?_
  refine ord_val rfl rfl rfl rfl (fun _ h => h) (val_fieldAddr rfl Tryz.underlying246 0 1 (by kernel_rfl) (by decide) rfl (Ent.pure rfl)) ?_
  refine ord_val rfl rfl rfl rfl (fun _ h => h) (val_load (v := .int .i64 (f.b : Nat)) rfl Tryz.underlying3 rfl rfl ((Ent.own 0 rfl).rd rfl)) ?_
  refine ord_val rfl rfl rfl rfl (fun _ h => h) (val_move rfl rfl) ?_
  refine ord_val rfl rfl rfl rfl (fun _ h => h) (val_nilCheck rfl rfl (Ent.pure rfl)) ?_
  refine ord_val rfl rfl rfl rfl (fun _ h => h) (val_fieldAddr rfl Tryz.underlying246 1 1 (by kernel_rfl) (by decide) rfl (Ent.pure rfl)) ?_
  refine ord_val rfl rfl rfl rfl (fun _ h => h) (val_load (v := .int .i64 (f.h : Nat)) rfl Tryz.underlying3 rfl rfl ((Ent.own 0 rfl).rd rfl)) ?_
  refine ord_eff (eff_callx rfl ⟨_, Tryz.func155, by kernel_rfl, rfl⟩ rfl (fun E w s => ref27_Places_c s hmay ht)) rfl rfl rfl rfl (.inr fun _ _ => (fun _ h => (Sats.keep [false, true, true] h :))) (fun q17 _ => ?_)
  refine ord_val rfl rfl rfl rfl (fun _ h => (Sats.keep [false, true, true] h :)) (val_move rfl rfl) ?_
  refine ord_val rfl rfl rfl rfl (fun _ h => (Sats.keep [false, true, true] h :)) (val_extract rfl rfl rfl) ?_
  refine ord_val rfl rfl rfl rfl (fun _ h => (Sats.keep [false, true, true] h :)) (val_extract rfl rfl rfl) ?_
  refine ord_val rfl rfl rfl rfl (fun _ h => (Sats.keep [false, true, true] h :)) (val_assign rfl rfl) ?_
  refine ord_val rfl rfl rfl rfl (fun _ h => (Sats.keep [false, true, true] h :)) (val_assign rfl rfl) ?_
  refine ord_nil ?_
  refine thru_on ?_
  refine pk_seq ?_
  refine pk_region ?_
  refine pk_val rfl rfl rfl (val_assign rfl rfl) ?_
  refine pk_nil ?_
  refine thru_on ?_
  refine pk_block ?_
  refine pk_loop (α := Nat) (0) (fun k => [(0, ptr (some ⟨B, 0, none⟩) 0), (4, .slice q17.1 f.h q17.2), (6, .int .i64 (k : Nat))]) (fun k => (own (some ⟨B, 0, none⟩) 1 1 246 3 f.box) :: (own f.A f.on.length f.c 4 1 ((onL f.on ((plN t f.b f.h).take k)).map .bool)) :: (own q17.1 f.h q17.2 3 1 ((plN t f.b f.h).map pV)) :: L) (fun k => k ≤ f.h) (fun k => f.h - k) ?_ ?_ ?_ ?_
  · (try dsimp only) <;> exact Nat.zero_le _
  · exact ⟨(Sub.cons rfl (by first | rfl | (congr 1; omega) | simp) (Sub.cons rfl (by first | rfl | (congr 1; omega) | simp) (Sub.cons rfl (by first | rfl | (congr 1; omega) | simp) (Sub.nil _)))), rfl⟩
  · exact (fun _ h => (Sats.pick 3 [1, 2, 0] rfl h :))
  rintro k hk0
  obtain ⟨ok, hok⟩ : ∃ ok, ok = onL f.on ((plN t f.b f.h).take k) := ⟨_, rfl⟩
  have hokl : ok.length = f.on.length := by rw [hok, onL_len]
  rw [← hok]
  refine pk_seq ?_
  refine pk_seq ?_
  refine pk_region ?_
  refine pk_val rfl rfl rfl (val_move rfl rfl) ?_
  refine pk_val rfl rfl rfl (val_move rfl rfl) ?_
  refine pk_val rfl rfl rfl (val_len_slice rfl Tryz.underlying241 rfl) ?_
  refine pk_val rfl rfl rfl (val_lss rfl rfl rfl) ?_
  refine pk_nil ?_
  refine thru_on ?_
  refine pk_if rfl (fun h => ?_) (fun h => ?_)
  · skip
    refine pk_skip ?_
    refine thru_on ?_
    have hk : k < f.h := by omega
    have hkl : k < (plN t f.b f.h).length := by rw [plN_len]; exact hk
    obtain ⟨p, hp⟩ : ∃ p, p = (plN t f.b f.h).getD k 0 := ⟨_, rfl⟩
    have hpb : p < f.b := by rw [hp]; exact plN_lt hf.b1 (getD_mem 0 hkl)
    have hpl : p < f.on.length := by rw [hf.len]; exact hpb
    refine Pk.tells ((Ent.own 2 rfl).some_of (by rw [List.length_map, plN_len]; omega)) fun hA => ?_
    refine Pk.tells ((Ent.own 1 rfl).some_of (by rw [List.length_map]; omega)) fun hR => ?_
    refine pk_seq ?_
    refine pk_block ?_
    refine pk_drawk (.val 0 (.val 1 (.val 2 (.val 3 (.val 4 (.val 5 (.val 6 (.val 7 (.val 8 (.eff 9 .nil)))))))))) 9 [] rfl (by kernel_rfl) (fun _ _ _ _ _ h => h) ?_
    refine ord_val rfl rfl rfl rfl (fun _ h => h) (val_move rfl rfl) ?_
    refine ord_val rfl rfl rfl rfl (fun _ h => h) (val_nilCheck rfl rfl (Ent.pure rfl)) ?_
    refine ord_val rfl rfl rfl rfl (fun _ h => h) (val_fieldAddr rfl Tryz.underlying246 2 1 (by kernel_rfl) (by decide) rfl (Ent.pure rfl)) ?_
    refine ord_val rfl rfl rfl rfl (fun _ h => h) (val_load (v := .slice f.A f.on.length f.c) rfl Tryz.underlying244 rfl rfl ((Ent.own 0 rfl).rd rfl)) ?_
    refine ord_val rfl rfl rfl rfl (fun _ h => h) (val_move rfl rfl) ?_
    refine ord_val rfl rfl rfl rfl (fun _ h => h) (val_move rfl rfl) ?_
    refine ord_val rfl rfl rfl rfl (fun _ h => h) (val_indexAddr rfl Tryz.underlying241 1 (by kernel_rfl) rfl rfl k rfl hk (Ent.pure hA)) ?_
    refine ord_val rfl rfl rfl rfl (fun _ h => h) (val_load (v := pV p) rfl Tryz.underlying3 rfl rfl ((Ent.own 2 rfl).rd (by rw [hp]; exact get_map 0 hkl))) ?_
    refine ord_val rfl rfl rfl rfl (fun _ h => h) (val_indexAddr rfl Tryz.underlying244 1 (by kernel_rfl) rfl rfl p rfl hpl (Ent.pure hR)) ?_
    refine ord_eff0 (eff_store 1 rfl rfl rfl rfl rfl (by kernel_rfl) rfl (by rw [List.length_map]; simp only [List.length_singleton]; omega) (by simp)) rfl rfl rfl (.inl rfl) (fun _ _ => ?_)
    refine ord_nil ?_
    refine in_on ?_
    refine thru_on ?_
    refine pk_region ?_
    refine pk_val rfl rfl rfl (val_move rfl rfl) ?_
    refine pk_val rfl rfl rfl (val_add rfl rfl rfl (by omega)) ?_
    refine pk_val rfl rfl rfl (val_assign rfl rfl) ?_
    refine pk_nil ?_
    refine thru_on ?_
    refine pk_next (x := k) (k + 1) ?_ ?_ ?_ ?_
    · (try dsimp only) <;> exact hk
    · (try dsimp only); exact (by omega)
    · exact ⟨(Sub.cons rfl (by first | rfl | (congr 1; omega) | simp) (Sub.cons rfl (by first | rfl | (congr 1; omega) | simp) (Sub.cons rfl (by first | rfl | (congr 1; omega) | simp) (Sub.nil _)))), rfl⟩
    · exact (fun _ h => by
      have h1 := (h)
      have e2 : splice (ok.map Value.bool) (p * 1) [.bool true] = (onL f.on ((plN t f.b f.h).take (k + 1))).map .bool := by rw [Nat.mul_one, splice_one (by rw [List.length_map]; omega), onL_take hkl, ← hok, ← hp, List.map_set]
      rw [← e2]
      exact h1)
  · skip
    refine pk_exit ?_
    refine thru ?_
    refine thru ?_
    refine pk_here ?_
    have hkk : k = f.h := by omega
    refine end0 rfl fun w s => ⟨rfl, s.to fun _ h => rf_shut ?_⟩
    have h1 := (Sats.keep [true, true, false] h)
    rw [hok, hkk, List.take_of_length_le (by rw [plN_len]; exact Nat.le_refl _)] at h1
    have e : (onT f.on f.b f.h t).length = f.on.length := onL_len _ _
    simp only [rfP, Rf.box, e]
    exact h1
theorem ref27_Bytes_c {E w : World} {L : List Ch} {B : Nat} {f : Rf} (s : Sat E w (rfCh B f :: L)) (hf : RfOk f) :
    Calls Tryz.prog 73 #[ptr (some ⟨B, 0, none⟩) 0] w (GivesX E (fun q : Option Addr × Nat => .slice q.1 (filB f.b f.h (packK f.b f.on f.b)).length q.2) (fun q => own q.1 (filB f.b f.h (packK f.b f.on f.b)).length q.2 5 1 ((filB f.b f.h (packK f.b f.on f.b)).map bV) :: rfCh B f :: L) (fun _ => True)) := by
  have hq : IntKind.i64.wrap (((f.b : Int) + 7).tdiv 8) = ((sizN f.b : Nat) : Int) := by
    have := hf.b2
    rw [Int.tdiv_eq_ediv_of_nonneg (by omega), wrap_i64 (by omega)]; unfold sizN; omega
  refine enter (vs := [_]) Tryz.func73 rfl Tryz.ntmps73 rfl s ?_
  have hfb := hf.b2
  have hf1 := hf.b1
  have hsl : sizN f.b ≤ 8200 := by unfold sizN; omega
  refine Pk.heap (fun _ h => rf_open h) ?_
  refine pk_seq ?_
  refine pk_region ?_
  refine pk_val rfl rfl rfl (val_assign rfl rfl) ?_
  refine pk_nil ?_
  refine thru_on ?_
  refine pk_seq ?_
  refine pk_drawk (.val 0 (.val 1 (.val 2 (.val 3 (.val 4 (.val 5 (.val 6 (.val 7 (.val 8 (.val 9 (.val 10 (.val 11 (.val 12 (.val 13 (.val 14 (.val 15 (.val 16 (.val 17 (.val 18 (.val 19 (.val 20 (.val 21 (.val 22 (.val 23 (.val 24 (.val 25 (.val 26 (.val 27 (.eff 28 (.val 29 .nil)))))))))))))))))))))))))))))) 1030 [] rfl (by kernel_rfl) (fun _ _ _ _ _ h => h) ?_
  refine ord_val rfl rfl rfl rfl (fun _ h => h) (val_move rfl rfl) ?_
  refine ord_val rfl rfl rfl rfl (fun _ h => h) (val_nilCheck rfl rfl (Ent.pure rfl)) ?_
  refine ord_val rfl rfl rfl rfl (fun _ h => h) (val_fieldAddr rfl Tryz.underlying246 0 1 (by kernel_rfl) (by decide) rfl (Ent.pure rfl)) ?_
  refine ord_val rfl rfl rfl rfl (fun _ h => h) (val_load (v := .int .i64 (f.b : Nat)) rfl Tryz.underlying3 rfl rfl ((Ent.own 0 rfl).rd rfl)) ?_
  refine ord_val rfl rfl rfl rfl (fun _ h => h) (val_shrw rfl rfl rfl (by decide)) ?_
  refine ord_val rfl rfl rfl rfl (fun _ h => h) (val_conv_int rfl Tryz.underlying3 Tryz.underlying5 rfl) ?_
  refine ord_val rfl rfl rfl rfl (fun _ h => h) (val_move rfl rfl) ?_
  refine ord_val rfl rfl rfl rfl (fun _ h => h) (val_nilCheck rfl rfl (Ent.pure rfl)) ?_
  refine ord_val rfl rfl rfl rfl (fun _ h => h) (val_fieldAddr rfl Tryz.underlying246 0 1 (by kernel_rfl) (by decide) rfl (Ent.pure rfl)) ?_
  refine ord_val rfl rfl rfl rfl (fun _ h => h) (val_load (v := .int .i64 (f.b : Nat)) rfl Tryz.underlying3 rfl rfl ((Ent.own 0 rfl).rd rfl)) ?_
  refine ord_val rfl rfl rfl rfl (fun _ h => h) (val_shrw rfl rfl rfl (by decide)) ?_
  refine ord_val rfl rfl rfl rfl (fun _ h => h) (val_conv_int rfl Tryz.underlying3 Tryz.underlying5 rfl) ?_
  refine ord_val rfl rfl rfl rfl (fun _ h => h) (val_move rfl rfl) ?_
  refine ord_val rfl rfl rfl rfl (fun _ h => h) (val_nilCheck rfl rfl (Ent.pure rfl)) ?_
  refine ord_val rfl rfl rfl rfl (fun _ h => h) (val_fieldAddr rfl Tryz.underlying246 0 1 (by kernel_rfl) (by decide) rfl (Ent.pure rfl)) ?_
  refine ord_val rfl rfl rfl rfl (fun _ h => h) (val_load (v := .int .i64 (f.b : Nat)) rfl Tryz.underlying3 rfl rfl ((Ent.own 0 rfl).rd rfl)) ?_
  refine ord_val rfl rfl rfl rfl (fun _ h => h) (val_shrw rfl rfl rfl (by decide)) ?_
  refine ord_val rfl rfl rfl rfl (fun _ h => h) (val_conv_int rfl Tryz.underlying3 Tryz.underlying5 rfl) ?_
  refine ord_val rfl rfl rfl rfl (fun _ h => h) (val_move rfl rfl) ?_
  refine ord_val rfl rfl rfl rfl (fun _ h => h) (val_nilCheck rfl rfl (Ent.pure rfl)) ?_
  refine ord_val rfl rfl rfl rfl (fun _ h => h) (val_fieldAddr rfl Tryz.underlying246 0 1 (by kernel_rfl) (by decide) rfl (Ent.pure rfl)) ?_
  refine ord_val rfl rfl rfl rfl (fun _ h => h) (val_load (v := .int .i64 (f.b : Nat)) rfl Tryz.underlying3 rfl rfl ((Ent.own 0 rfl).rd rfl)) ?_
  refine ord_val rfl rfl rfl rfl (fun _ h => h) (val_conv_int rfl Tryz.underlying3 Tryz.underlying5 rfl) ?_
  refine ord_val rfl rfl rfl rfl (fun _ h => h) (val_move rfl rfl) ?_
  refine ord_val rfl rfl rfl rfl (fun _ h => h) (val_nilCheck rfl rfl (Ent.pure rfl)) ?_
  refine ord_val rfl rfl rfl rfl (fun _ h => h) (val_fieldAddr rfl Tryz.underlying246 1 1 (by kernel_rfl) (by decide) rfl (Ent.pure rfl)) ?_
  refine ord_val rfl rfl rfl rfl (fun _ h => h) (val_load (v := .int .i64 (f.h : Nat)) rfl Tryz.underlying3 rfl rfl ((Ent.own 0 rfl).rd rfl)) ?_
  refine ord_val rfl rfl rfl rfl (fun _ h => h) (val_conv_int rfl Tryz.underlying3 Tryz.underlying5 rfl) ?_
  refine ord_eff (eff_buildSlice (len := 5) (sz := 1) (z := #[.int .u8 0]) rfl Tryz.underlying28 (by kernel_rfl) rfl rfl rfl (by decide) (by decide) rfl rfl) rfl rfl rfl rfl (.inr fun _ _ => (fun _ h => (Sats.keep [false, true, true] h :))) (fun b34 _ => ?_)
  refine ord_val rfl rfl rfl rfl (fun _ h => (Sats.keep [false, true, true] h :)) (val_assign rfl rfl) ?_
  refine ord_nil ?_
  refine thru_on ?_
  refine pk_seq ?_
  refine pk_region ?_
  refine pk_val rfl rfl rfl (val_move rfl rfl) ?_
  refine pk_val rfl rfl rfl (val_nilCheck rfl rfl (Ent.pure rfl)) ?_
  refine pk_val rfl rfl rfl (val_fieldAddr rfl Tryz.underlying246 0 1 (by kernel_rfl) (by decide) rfl (Ent.pure rfl)) ?_
  refine pk_val rfl rfl rfl (val_load (v := .int .i64 (f.b : Nat)) rfl Tryz.underlying3 rfl rfl ((Ent.own 1 rfl).rd rfl)) ?_
  refine pk_val rfl rfl rfl (val_add rfl rfl rfl (by omega)) ?_
  refine pk_val rfl rfl rfl (val_quow rfl rfl rfl (by decide)) ?_
  refine pk_eff (eff_make1 (z := .int .u8 0) (zc := .int .u8 0) (bytes := 1) (l := sizN f.b) (c := sizN f.b) rfl Tryz.underlying28 (by kernel_rfl) rfl rfl rfl hq hq (Nat.le_refl _) (by omega) (by omega)) rfl rfl rfl (fun b41 _ => ?_)
  refine pk_val rfl rfl rfl (val_assign rfl rfl) ?_
  refine pk_nil ?_
  refine thru_on ?_
  refine pk_seq ?_
  refine pk_seq ?_
  refine pk_region ?_
  refine pk_val rfl rfl rfl (val_assign rfl rfl) ?_
  refine pk_nil ?_
  refine thru_on ?_
  refine pk_block ?_
  refine pk_loop (α := Nat) (0) (fun k => [(0, ptr (some ⟨B, 0, none⟩) 0), (3, .slice (some ⟨b34, 0, none⟩) 5 5), (4, .slice (some ⟨b41, 0, none⟩) (sizN f.b) (sizN f.b)), (5, .int .i64 (k : Nat))]) (fun k => (own (some ⟨b41, 0, none⟩) (sizN f.b) (sizN f.b) 5 1 ((packK f.b f.on k).map bV)) :: (own (some ⟨b34, 0, none⟩) 5 5 5 1 ((hdrN f.b f.h).map bV)) :: (own (some ⟨B, 0, none⟩) 1 1 246 3 f.box) :: (own f.A f.on.length f.c 4 1 (f.on.map .bool)) :: L) (fun k => k ≤ f.b) (fun k => f.b - k) ?_ ?_ ?_ ?_
  · (try dsimp only) <;> exact Nat.zero_le _
  · exact ⟨(Sub.cons rfl (by first | rfl | (congr 1; omega) | simp) (Sub.cons rfl (by first | rfl | (congr 1; omega) | simp) (Sub.cons rfl (by first | rfl | (congr 1; omega) | simp) (Sub.cons rfl (by first | rfl | (congr 1; omega) | simp) (Sub.nil _))))), rfl⟩
  · exact (fun _ h => by
    have h1 := (h)
    rw [hdr_vals] at h1
    rw [packK, List.range_zero, List.foldl_nil, show (zer f.b).map bV = List.replicate (sizN f.b) (.int .u8 0) by simp [zer]]; exact h1)
  rintro k hk0
  obtain ⟨sk, hsk⟩ : ∃ sk, sk = packK f.b f.on k := ⟨_, rfl⟩
  have hps := packK_spec (on := f.on) k hk0
  rw [← hsk] at hps
  rw [← hsk]
  have hskl := hps.1
  refine pk_seq ?_
  refine pk_seq ?_
  refine pk_region ?_
  refine pk_val rfl rfl rfl (val_move rfl rfl) ?_
  refine pk_val rfl rfl rfl (val_move rfl rfl) ?_
  refine pk_val rfl rfl rfl (val_nilCheck rfl rfl (Ent.pure rfl)) ?_
  refine pk_val rfl rfl rfl (val_fieldAddr rfl Tryz.underlying246 0 1 (by kernel_rfl) (by decide) rfl (Ent.pure rfl)) ?_
  refine pk_val rfl rfl rfl (val_load (v := .int .i64 (f.b : Nat)) rfl Tryz.underlying3 rfl rfl ((Ent.own 2 rfl).rd rfl)) ?_
  refine pk_val rfl rfl rfl (val_lss rfl rfl rfl) ?_
  refine pk_nil ?_
  refine thru_on ?_
  refine pk_if rfl (fun h => ?_) (fun h => ?_)
  · skip
    refine pk_skip ?_
    refine thru_on ?_
    have hk : k < f.b := by omega
    have hkl : k < f.on.length := by rw [hf.len]; exact hk
    have hk8 : k / 8 < sizN f.b := div_lt_siz hk
    have hkm : k % 8 < 8 := Nat.mod_lt _ (by decide)
    have hgb := hps.2.1.getD (k / 8)
    refine Pk.tells ((Ent.own 3 rfl).some_of (by rw [List.length_map]; omega)) fun hR => ?_
    refine pk_seq ?_
    refine pk_block ?_
    refine pk_seq ?_
    refine pk_region ?_
    refine pk_val rfl rfl rfl (val_move rfl rfl) ?_
    refine pk_val rfl rfl rfl (val_nilCheck rfl rfl (Ent.pure rfl)) ?_
    refine pk_val rfl rfl rfl (val_fieldAddr rfl Tryz.underlying246 2 1 (by kernel_rfl) (by decide) rfl (Ent.pure rfl)) ?_
    refine pk_val rfl rfl rfl (val_load (v := .slice f.A f.on.length f.c) rfl Tryz.underlying244 rfl rfl ((Ent.own 2 rfl).rd rfl)) ?_
    refine pk_val rfl rfl rfl (val_move rfl rfl) ?_
    refine pk_val rfl rfl rfl (val_indexAddr rfl Tryz.underlying244 1 (by kernel_rfl) rfl rfl k rfl hkl (Ent.pure hR)) ?_
    refine pk_val rfl rfl rfl (val_load (v := .bool (f.on.getD k false)) rfl Tryz.underlying4 rfl rfl ((Ent.own 3 rfl).rd (get_map false hkl))) ?_
    refine pk_nil ?_
    refine thru_on ?_
    refine pk_ifb rfl (fun h2 => ?_) (fun h2 => ?_)
    · skip
      refine pk_drawk (.val 0 (.val 1 (.val 2 (.val 3 (.val 4 (.val 5 (.val 6 (.val 7 (.val 8 (.val 9 (.val 10 (.val 11 (.val 12 (.eff 13 .nil)))))))))))))) 13 [] rfl (by kernel_rfl) (fun _ _ _ _ _ h => h) ?_
      refine ord_val rfl rfl rfl rfl (fun _ h => h) (val_move rfl rfl) ?_
      refine ord_val rfl rfl rfl rfl (fun _ h => h) (val_move rfl rfl) ?_
      refine ord_val rfl rfl rfl rfl (fun _ h => h) (val_quow rfl rfl rfl (by decide)) ?_
      refine ord_val rfl rfl rfl rfl (fun _ h => h) (val_move rfl rfl) ?_
      refine ord_val rfl rfl rfl rfl (fun _ h => h) (val_move rfl rfl) ?_
      refine ord_val rfl rfl rfl rfl (fun _ h => h) (val_quow rfl rfl rfl (by decide)) ?_
      refine ord_val rfl rfl rfl rfl (fun _ h => h) (val_indexAddr rfl Tryz.underlying28 1 (by kernel_rfl) rfl rfl (k / 8) (by rw [Int.tdiv_eq_ediv_of_nonneg (by omega), wrap_i64 (by omega)]; omega) (by omega) (Ent.pure rfl)) ?_
      refine ord_val rfl rfl rfl rfl (fun _ h => h) (val_load rfl Tryz.underlying5 rfl rfl ((Ent.own 0 rfl).rd (get_map (f := bV) 0 (by omega)))) ?_
      refine ord_val rfl rfl rfl rfl (fun _ h => h) (val_move rfl rfl) ?_
      refine ord_val rfl rfl rfl rfl (fun _ h => h) (val_remw rfl rfl rfl (by decide)) ?_
      refine ord_val rfl rfl rfl rfl (fun _ h => h) (val_shlw rfl rfl rfl (by rw [Int.tmod_eq_emod_of_nonneg (by omega)]; omega)) ?_
      refine ord_val rfl rfl rfl rfl (fun _ h => h) (val_orw rfl rfl rfl) ?_
      refine Pk.slot 68 (v := .int .u8 ((sk.getD (k / 8) 0 ||| 2 ^ (k % 8) : Nat) : Int)) rfl (by rw [show ((k : Int).tmod 8) = ((k % 8 : Nat) : Int) by rw [Int.tmod_eq_emod_of_nonneg (by omega)]; omega, u8_shl hkm, u8_or hgb (Nat.lt_of_lt_of_le (Nat.pow_lt_pow_right (by decide) hkm) (by decide))]) ?_
      refine ord_val rfl rfl rfl rfl (fun _ h => h) (val_indexAddr rfl Tryz.underlying28 1 (by kernel_rfl) rfl rfl (k / 8) (by rw [Int.tdiv_eq_ediv_of_nonneg (by omega), wrap_i64 (by omega)]; omega) (by omega) (Ent.pure rfl)) ?_
      refine ord_eff0 (eff_store (vs := [.int .u8 ((sk.getD (k / 8) 0 ||| 2 ^ (k % 8) : Nat) : Int)]) 0 rfl rfl rfl rfl rfl (by kernel_rfl) rfl (by rw [List.length_map]; simp only [List.length_singleton]; omega) (Nat.zero_lt_one)) rfl rfl rfl (.inl rfl) (fun _ _ => ?_)
      refine ord_nil ?_
      refine in_on ?_
      refine thru_on ?_
      refine pk_region ?_
      refine pk_val rfl rfl rfl (val_move rfl rfl) ?_
      refine pk_val rfl rfl rfl (val_add rfl rfl rfl (by omega)) ?_
      refine pk_val rfl rfl rfl (val_assign rfl rfl) ?_
      refine pk_nil ?_
      refine thru_on ?_
      refine pk_next (x := k) (k + 1) ?_ ?_ ?_ ?_
      · (try dsimp only) <;> exact hk
      · (try dsimp only); exact (by omega)
      · exact ⟨(Sub.cons rfl (by first | rfl | (congr 1; omega) | simp) (Sub.cons rfl (by first | rfl | (congr 1; omega) | simp) (Sub.cons rfl (by first | rfl | (congr 1; omega) | simp) (Sub.cons rfl (by first | rfl | (congr 1; omega) | simp) (Sub.nil _))))), rfl⟩
      · exact (fun _ h => by
        have h1 := (h)
        have e : packK f.b f.on (k + 1) = addB sk k := by rw [packK_succ, if_pos h2, ← hsk]
        rw [e]
        have e2 : splice (sk.map bV) (k / 8 * 1) [.int .u8 ((sk.getD (k / 8) 0 ||| 2 ^ (k % 8) : Nat) : Int)] = (addB sk k).map bV := by rw [Nat.mul_one, splice_one (by rw [List.length_map]; omega), addB, List.map_set]
        rw [← e2]
        exact h1)
    · skip
      refine pk_skip ?_
      refine in_on ?_
      refine thru_on ?_
      refine pk_region ?_
      refine pk_val rfl rfl rfl (val_move rfl rfl) ?_
      refine pk_val rfl rfl rfl (val_add rfl rfl rfl (by omega)) ?_
      refine pk_val rfl rfl rfl (val_assign rfl rfl) ?_
      refine pk_nil ?_
      refine thru_on ?_
      refine pk_next (x := k) (k + 1) ?_ ?_ ?_ ?_
      · (try dsimp only) <;> exact hk
      · (try dsimp only); exact (by omega)
      · exact ⟨(Sub.cons rfl (by first | rfl | (congr 1; omega) | simp) (Sub.cons rfl (by first | rfl | (congr 1; omega) | simp) (Sub.cons rfl (by first | rfl | (congr 1; omega) | simp) (Sub.cons rfl (by first | rfl | (congr 1; omega) | simp) (Sub.nil _))))), rfl⟩
      · exact (fun _ h => by
        have e : packK f.b f.on (k + 1) = sk := by rw [packK_succ, if_neg (by rw [h2]; decide), ← hsk]
        rw [e]; exact (h))
  · skip
    refine pk_exit ?_
    refine thru ?_
    refine thru ?_
    refine pk_here ?_
    refine thru_on ?_
    refine pk_seq ?_
    refine pk_region ?_
    refine pk_val rfl rfl rfl (val_move rfl rfl) ?_
    refine pk_val rfl rfl rfl (val_move rfl rfl) ?_
    refine pk_eff (eff_append1 (sz := 1) (bytes := 1) (z := .int .u8 0) 1 rfl Tryz.underlying28 (by kernel_rfl) rfl (by decide) (by decide) rfl rfl rfl (Ent.own 0 rfl) rfl (by rw [List.length_map, Nat.mul_one, hskl]) (all_bV _) (by omega)) rfl rfl rfl (fun q72 _ => ?_)
    refine pk_val rfl rfl rfl (val_assign rfl rfl) ?_
    refine pk_nil ?_
    refine thru_on ?_
    refine pk_ret ?_
    have hkk : k = f.b := by omega
    have e3 : packK f.b f.on f.b = sk := by rw [hsk, hkk]
    have e : (filB f.b f.h (packK f.b f.on f.b)).length = 5 + sizN f.b := by rw [filB, List.length_append, e3, hskl]; rfl
    refine ret1 rfl rfl fun w s => ⟨q72, trivial, by rw [e], s.to fun _ h => ?_⟩
    rw [e, filB, List.map_append, e3]
    exact Sats.under (fun _ h => rf_shut h) (Sats.keep [false, true, true, true] h)
end Go.Proofs.YtdpckendkklfdaaGreat
