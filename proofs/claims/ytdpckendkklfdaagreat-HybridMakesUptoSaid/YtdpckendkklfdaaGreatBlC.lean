/- The walks of package bloom, third part: Has, Bytes, Read. -/
import Derived.Test.YtdpckendkklfdaaGreatBlB
set_option linter.unusedVariables false
set_option linter.unusedSimpArgs false
set_option maxRecDepth 100000
namespace Go.Proofs.YtdpckendkklfdaaGreat
open Go.RowKit Go.Proofs.Eng
theorem callable_has : Callable Tryz.prog 158 := ⟨_, Tryz.func158, by kernel_rfl, rfl⟩
theorem bloom_Has1_c {E w : World} {L : List Ch} {B X : Nat} {f : Fi} {p : Nat} (s : Sat E w L) (hf : FiOk f) (hi : FiIn L B f) (hx : Ent L (RdL (some ⟨X, 0, none⟩) [ptr (some ⟨B, 0, none⟩) 0])) (hp : p < f.b) :
    Calls Tryz.prog 158 #[pV p, ptr (some ⟨X, 0, none⟩) 0] w (Gives E (.bool (!hasB f.s p)) L) := by
  refine enter (vs := [_, _]) Tryz.func158 rfl Tryz.ntmps158 rfl s ?_
  have hfb := hf.b2
  have hp8 : p / 8 < f.s.length := by rw [hf.len]; exact div_lt_siz hp
  have hpm : p % 8 < 8 := Nat.mod_lt _ (by decide)
  have hgb := hf.byt.getD (p / 8)
  refine Pk.tells (hi.row.some_of (by rw [List.length_map]; omega)) fun hR => ?_
  refine pk_seq ?_
  refine pk_region ?_
  refine pk_val rfl rfl rfl (val_assign rfl rfl) ?_
  refine pk_nil ?_
  refine thru_on ?_
  refine pk_seq ?_
  refine pk_region ?_
  refine pk_val rfl rfl rfl (val_load (v := ptr (some ⟨B, 0, none⟩) 0) rfl Tryz.underlying140 rfl rfl (hx.rd rfl)) ?_
  refine pk_val rfl rfl rfl (val_nilCheck rfl rfl (Ent.pure rfl)) ?_
  refine pk_val rfl rfl rfl (val_fieldAddr rfl Tryz.underlying239 2 1 (by kernel_rfl) (by decide) rfl (Ent.pure rfl)) ?_
  refine pk_val rfl rfl rfl (val_load (v := .slice f.A f.s.length f.c) rfl Tryz.underlying28 rfl rfl (hi.box.rd rfl)) ?_
  refine pk_val rfl rfl rfl (val_move rfl rfl) ?_
  refine pk_val rfl rfl rfl (val_quow rfl rfl rfl (by decide)) ?_
  refine pk_val rfl rfl rfl (val_indexAddr rfl Tryz.underlying28 1 (by kernel_rfl) rfl rfl (p / 8) (by rw [Int.tdiv_eq_ediv_of_nonneg (by omega), wrap_i64 (by omega)]; omega) (by omega) (Ent.pure hR)) ?_
  refine pk_val rfl rfl rfl (val_load rfl Tryz.underlying5 rfl rfl (hi.row.rd (get_map (f := bV) 0 hp8))) ?_
  refine pk_val rfl rfl rfl (val_move rfl rfl) ?_
  refine pk_val rfl rfl rfl (val_remw rfl rfl rfl (by decide)) ?_
  refine pk_val rfl rfl rfl (val_shrw rfl rfl rfl (by rw [Int.tmod_eq_emod_of_nonneg (by omega)]; omega)) ?_
  refine pk_val rfl rfl rfl (val_andw rfl rfl rfl) ?_
  refine pk_val rfl rfl rfl (val_eql rfl rfl rfl) ?_
  refine pk_val rfl rfl rfl (val_assign rfl rfl) ?_
  refine pk_nil ?_
  refine thru_on ?_
  refine pk_ret ?_
  refine ret1 rfl rfl fun w s => ⟨?_, s⟩
  rw [show ((p : Int).tmod 8) = ((p % 8 : Nat) : Int) by rw [Int.tmod_eq_emod_of_nonneg (by omega)]; omega]
  exact congrArg (fun b => Ending.returned (.bool b)) (u8_bit hgb hpm)
theorem IndexFunc_int_c {E w : World} {L : List Ch} {A : Option Addr} {c n g : Nat} {cap : Array Value} {l : List Nat} {pr : Nat → Bool} (s : Sat E w L) (hr : Ent L (RdL A (l.map pV))) (hn : l.length = n) (hl : n ≤ 4611686018427387904) (hg : Callable Tryz.prog g) (hc : ∀ E w x, x ∈ l → Sat E w L → Calls Tryz.prog g (#[pV x] ++ cap) w (Gives E (.bool (pr x)) L)) :
    Calls Tryz.prog 205 #[.slice A n c, .func (.func g) #[] cap] w (Gives E (.int .i64 (idxF pr l)) L) := by
  subst hn
  refine enter (vs := [_, _]) Tryz.func205 rfl Tryz.ntmps205 rfl s ?_
  refine pk_seq ?_
  refine pk_region ?_
  refine pk_val rfl rfl rfl (val_assign rfl rfl) ?_
  refine pk_nil ?_
  refine thru_on ?_
  refine pk_seq ?_
  refine pk_seq ?_
  refine pk_region ?_
  refine pk_val rfl rfl rfl (val_move rfl rfl) ?_
  refine pk_val rfl rfl rfl (val_len_slice rfl Tryz.underlying241 rfl) ?_
  refine pk_val rfl rfl rfl (val_move rfl rfl) ?_
  refine pk_nil ?_
  refine thru_on ?_
  refine pk_block ?_
  refine pk_loop (α := Nat) (0) (fun k => [(0, .slice A l.length c), (1, .func (.func g) #[] cap), (7, .int .i64 (l.length : Nat)), (8, .int .i64 (k : Nat))]) (fun k => L) (fun k => k ≤ l.length ∧ ∀ j, j < k → pr (l.getD j 0) = false) (fun k => l.length - k) ?_ ?_ ?_ ?_
  · (try dsimp only) <;> exact ⟨Nat.zero_le _, fun j h => by omega⟩
  · exact ⟨(Sub.cons rfl (by first | rfl | (congr 1; omega) | simp) (Sub.cons rfl (by first | rfl | (congr 1; omega) | simp) (Sub.cons rfl (by first | rfl | (congr 1; omega) | simp) (Sub.cons rfl (by first | rfl | (congr 1; omega) | simp) (Sub.nil _))))), rfl⟩
  · exact (fun _ h => h)
  rintro k ⟨hk0, hI⟩
  refine pk_seq ?_
  refine pk_region ?_
  refine pk_val rfl rfl rfl (val_lss rfl rfl rfl) ?_
  refine pk_nil ?_
  refine thru_on ?_
  refine pk_seq ?_
  refine pk_if rfl (fun h => ?_) (fun h => ?_)
  · skip
    refine pk_skip ?_
    refine thru_on ?_
    have hk : k < l.length := by omega
    have hmem := getD_mem 0 hk
    refine Pk.tells (hr.some_of (by rw [List.length_map]; omega)) fun hA => ?_
    refine pk_seq ?_
    refine pk_block ?_
    refine pk_seq ?_
    refine pk_region ?_
    refine pk_val rfl rfl rfl (val_move rfl rfl) ?_
    refine pk_val rfl rfl rfl (val_assign rfl rfl) ?_
    refine pk_nil ?_
    refine thru_on ?_
    refine pk_seq ?_
    refine pk_region ?_
    refine pk_val rfl rfl rfl (val_move rfl rfl) ?_
    refine pk_val rfl rfl rfl (val_move rfl rfl) ?_
    refine pk_val rfl rfl rfl (val_move rfl rfl) ?_
    refine pk_val rfl rfl rfl (val_indexAddr rfl Tryz.underlying241 1 (by kernel_rfl) rfl rfl k rfl hk (Ent.pure hA)) ?_
    refine pk_val rfl rfl rfl (val_load rfl Tryz.underlying3 rfl rfl (hr.rd (get_map 0 hk))) ?_
    refine pk_eff (eff_callv1 (vs := [pV (l.getD k 0)]) rfl rfl hg rfl (fun E w s => hc E w _ hmem s)) rfl rfl rfl (fun _ _ => ?_)
    refine pk_nil ?_
    refine thru_on ?_
    refine pk_ifb rfl (fun h2 => ?_) (fun h2 => ?_)
    · skip
      refine pk_seq ?_
      refine pk_region ?_
      refine pk_val rfl rfl rfl (val_move rfl rfl) ?_
      refine pk_val rfl rfl rfl (val_assign rfl rfl) ?_
      refine pk_nil ?_
      refine thru_on ?_
      refine pk_ret ?_
      refine in_ret ?_
      refine thru_ret ?_
      refine thru_ret ?_
      refine in_ret ?_
      refine thru_ret ?_
      refine ret1 rfl rfl fun w s => ⟨?_, s⟩
      rw [idxF_at 0 hk h2 hI]
    · skip
      refine pk_skip ?_
      refine in_on ?_
      refine thru_on ?_
      refine pk_region ?_
      refine pk_val rfl rfl rfl (val_add rfl rfl rfl (by omega)) ?_
      refine pk_val rfl rfl rfl (val_move rfl rfl) ?_
      refine pk_nil ?_
      refine thru_on ?_
      refine pk_next (x := k) (k + 1) ?_ ?_ ?_ ?_
      · (try dsimp only) <;> exact ⟨hk, fun j hj => by
        by_cases e : j = k
        · subst e; exact h2
        · exact hI j (by omega)⟩
      · (try dsimp only); exact (by omega)
      · exact ⟨(Sub.cons rfl (by first | rfl | (congr 1; omega) | simp) (Sub.cons rfl (by first | rfl | (congr 1; omega) | simp) (Sub.cons rfl (by first | rfl | (congr 1; omega) | simp) (Sub.cons rfl (by first | rfl | (congr 1; omega) | simp) (Sub.nil _))))), rfl⟩
      · exact (fun _ h => h)
  · skip
    refine pk_exit ?_
    refine thru ?_
    refine thru ?_
    refine pk_here ?_
    refine thru_on ?_
    refine pk_seq ?_
    refine pk_region ?_
    refine pk_val rfl rfl rfl (val_assign rfl rfl) ?_
    refine pk_nil ?_
    refine thru_on ?_
    refine pk_ret ?_
    have hkk : k = l.length := by omega
    subst hkk
    refine ret1 rfl rfl fun w s => ⟨?_, s⟩
    rw [idxF_no 0 hI]
theorem ContainsFunc_int_c {E w : World} {L : List Ch} {A : Option Addr} {c n g : Nat} {cap : Array Value} {l : List Nat} {pr : Nat → Bool} (s : Sat E w L) (hr : Ent L (RdL A (l.map pV))) (hn : l.length = n) (hl : n ≤ 4611686018427387904) (hg : Callable Tryz.prog g) (hc : ∀ E w x, x ∈ l → Sat E w L → Calls Tryz.prog g (#[pV x] ++ cap) w (Gives E (.bool (pr x)) L)) :
    Calls Tryz.prog 157 #[.slice A n c, .func (.func g) #[] cap] w (Gives E (.bool (l.any pr)) L) := by
  refine enter (vs := [_, _]) Tryz.func157 rfl Tryz.ntmps157 rfl s ?_
  refine pk_seq ?_
  refine pk_region ?_
  refine pk_val rfl rfl rfl (val_assign rfl rfl) ?_
  refine pk_nil ?_
  refine thru_on ?_
  refine pk_seq ?_
  refine pk_region ?_
  refine pk_val rfl rfl rfl (val_move rfl rfl) ?_
  refine pk_val rfl rfl rfl (val_move rfl rfl) ?_
  refine pk_eff (eff_call1 rfl ⟨_, Tryz.func205, by kernel_rfl, rfl⟩ rfl (fun E w s => IndexFunc_int_c s hr hn hl hg hc)) rfl rfl rfl (fun _ _ => ?_)
  refine pk_val rfl rfl rfl (val_geq rfl rfl rfl) ?_
  refine pk_val rfl rfl rfl (val_assign rfl rfl) ?_
  refine pk_nil ?_
  refine thru_on ?_
  refine pk_ret ?_
  refine ret1 rfl rfl fun w s => ⟨?_, s⟩
  rw [idxF_pos]
theorem bloom_Has_c {E w : World} {L : List Ch} {B : Nat} {f : Fi} {t : ByteArray} (s : Sat E w L) (hf : FiOk f) (hi : FiIn L B f) (ht : t.size ≤ 4611686018427387904) :
    Calls Tryz.prog 75 #[ptr (some ⟨B, 0, none⟩) 0, .string t] w (Gives E (.bool (hasT f.s f.b f.h t)) L) := by
  refine enter (vs := [_, _]) Tryz.func75 rfl Tryz.ntmps75 rfl s ?_
  refine pk_seq ?_
  refine pk_region ?_
  refine pk_eff (eff_box rfl rfl rfl) rfl rfl rfl (fun b2 _ => ?_)
  refine pk_val rfl rfl rfl (val_assign rfl rfl) ?_
  refine pk_nil ?_
  refine thru_on ?_
  refine pk_seq ?_
  refine pk_region ?_
  refine pk_val rfl rfl rfl (val_load (v := ptr (some ⟨B, 0, none⟩) 0) rfl Tryz.underlying140 rfl rfl ((Ent.own 0 rfl).rd rfl)) ?_
  refine pk_val rfl rfl rfl (val_nilCheck rfl rfl (Ent.pure rfl)) ?_
  refine pk_val rfl rfl rfl (val_fieldAddr rfl Tryz.underlying239 0 2 (by kernel_rfl) (by decide) rfl (Ent.pure rfl)) ?_
  refine pk_val rfl rfl rfl (val_loads (vs := [.int .i64 (f.b : Nat), .int .i64 (f.h : Nat)]) rfl Tryz.underlying236 rfl (by kernel_rfl) rfl (Ent.pure rfl) (hi.cons.box.rds (fun j v h => by
    match j, h with
    | 0, h => exact h
    | 1, h => exact h))) ?_
  refine pk_val rfl rfl rfl (val_move rfl rfl) ?_
  refine pk_eff (eff_callx rfl ⟨_, Tryz.func152, by kernel_rfl, rfl⟩ rfl (fun E w s => bloom_places_c s hf.b1 hf.b2 hf.h2 ht)) rfl rfl rfl (fun q10 _ => ?_)
  refine pk_val rfl rfl rfl (val_func rfl rfl rfl) ?_
  refine pk_eff (eff_call1 rfl ⟨_, Tryz.func157, by kernel_rfl, rfl⟩ rfl (fun E w s => ContainsFunc_int_c (l := plN t f.b f.h) (pr := fun p => !hasB f.s p) s (Ent.own 0 rfl) (plN_len _ _ _) (by have := hf.h2; omega) callable_has (fun E w x hx s => bloom_Has1_c s hf hi.cons.cons (Ent.own 1 rfl) (plN_lt hf.b1 hx)))) rfl rfl rfl (fun _ _ => ?_)
  refine pk_val rfl rfl rfl (val_not rfl rfl) ?_
  refine pk_val rfl rfl rfl (val_assign rfl rfl) ?_
  refine pk_nil ?_
  refine thru_on ?_
  refine pk_ret ?_
  refine ret1 rfl rfl fun w s => ⟨?_, s.to (fun _ h => Sats.keep [false, false] h)⟩
  have e : (!(plN t f.b f.h).any fun p => !hasB f.s p) = hasT f.s f.b f.h t := by rw [List.not_any_eq_all_not]; simp [hasT]
  rw [e]
def hdrN (b h : Nat) : List Nat := [b / 16777216 % 256, b / 65536 % 256, b / 256 % 256, b % 256, h % 256]
theorem byte_of {n k : Nat} : IntKind.u8.wrap ((n : Int).fdiv (2 ^ (min (k : Int).toNat IntKind.i64.bits))) = ((n / 2 ^ (min k 64) % 256 : Nat) : Int) := by
  have hm : min (k : Int).toNat IntKind.i64.bits = min k 64 := by simp [IntKind.bits]
  rw [hm, Int.fdiv_eq_ediv_of_nonneg _ (by exact Int.le_of_lt (Int.pow_pos (by decide)))]
  have e : ((n : Int) / 2 ^ min k 64) = ((n / 2 ^ min k 64 : Nat) : Int) := by simp
  rw [e]
  simp [IntKind.wrap, IntKind.bits, IntKind.signed]
theorem byte_of0 {n : Nat} : IntKind.u8.wrap (n : Int) = ((n % 256 : Nat) : Int) := by
  simp [IntKind.wrap, IntKind.bits, IntKind.signed]
theorem hdr_vals (b h : Nat) : [Value.int .u8 (IntKind.u8.wrap ((b : Int).fdiv (2 ^ (min (24 : Int).toNat IntKind.i64.bits)))), .int .u8 (IntKind.u8.wrap ((b : Int).fdiv (2 ^ (min (16 : Int).toNat IntKind.i64.bits)))), .int .u8 (IntKind.u8.wrap ((b : Int).fdiv (2 ^ (min (8 : Int).toNat IntKind.i64.bits)))), .int .u8 (IntKind.u8.wrap (b : Int)), .int .u8 (IntKind.u8.wrap (h : Int))] = (hdrN b h).map bV := by
  have e1 := byte_of (n := b) (k := 24)
  have e2 := byte_of (n := b) (k := 16)
  have e3 := byte_of (n := b) (k := 8)
  have f1 : IntKind.u8.wrap ((b : Int).fdiv (2 ^ (min (24 : Int).toNat IntKind.i64.bits))) = ((b / 16777216 % 256 : Nat) : Int) := e1
  have f2 : IntKind.u8.wrap ((b : Int).fdiv (2 ^ (min (16 : Int).toNat IntKind.i64.bits))) = ((b / 65536 % 256 : Nat) : Int) := e2
  have f3 : IntKind.u8.wrap ((b : Int).fdiv (2 ^ (min (8 : Int).toNat IntKind.i64.bits))) = ((b / 256 % 256 : Nat) : Int) := e3
  rw [f1, f2, f3, byte_of0, byte_of0]; rfl
def filB (b h : Nat) (s : List Nat) : List Nat := hdrN b h ++ s
theorem byt_hdr (b h : Nat) : Byt (hdrN b h) := fun x hx => by
  simp only [hdrN, List.mem_cons, List.not_mem_nil, or_false] at hx
  rcases hx with rfl | rfl | rfl | rfl | rfl <;> exact Nat.mod_lt _ (by decide)
theorem bloom_Bytes_c {E w : World} {L : List Ch} {B : Nat} {f : Fi} (s : Sat E w L) (hf : FiOk f) (hi : FiIn L B f) :
    Calls Tryz.prog 68 #[ptr (some ⟨B, 0, none⟩) 0] w (GivesX E (fun q : Option Addr × Nat => .slice q.1 (filB f.b f.h f.s).length q.2) (fun q => own q.1 (filB f.b f.h f.s).length q.2 5 1 ((filB f.b f.h f.s).map bV) :: L) (fun _ => True)) := by
  refine enter (vs := [_]) Tryz.func68 rfl Tryz.ntmps68 rfl s ?_
  have hsl : f.s.length ≤ 8200 := by rw [hf.len]; have := hf.b2; unfold sizN; omega
  have e : (filB f.b f.h f.s).length = 5 + f.s.length := by rw [filB, List.length_append]; rfl
  refine pk_seq ?_
  refine pk_region ?_
  refine pk_val rfl rfl rfl (val_assign rfl rfl) ?_
  refine pk_nil ?_
  refine thru_on ?_
  refine pk_seq ?_
  refine pk_region ?_
  refine pk_val rfl rfl rfl (val_move rfl rfl) ?_
  refine pk_val rfl rfl rfl (val_nilCheck rfl rfl (Ent.pure rfl)) ?_
  refine pk_val rfl rfl rfl (val_fieldAddr rfl Tryz.underlying239 0 2 (by kernel_rfl) (by decide) rfl (Ent.pure rfl)) ?_
  refine pk_val rfl rfl rfl (val_fieldAddr rfl Tryz.underlying236 0 1 (by kernel_rfl) (by decide) rfl (Ent.pure rfl)) ?_
  refine pk_val rfl rfl rfl (val_load (v := .int .i64 (f.b : Nat)) rfl Tryz.underlying3 rfl rfl (hi.box.rd rfl)) ?_
  refine pk_val rfl rfl rfl (val_assign rfl rfl) ?_
  refine pk_nil ?_
  refine thru_on ?_
  refine pk_seq ?_
  refine pk_drawk (.val 0 (.val 1 (.val 2 (.val 3 (.val 4 (.val 5 (.val 6 (.val 7 (.val 8 (.val 9 (.val 10 (.val 11 (.val 12 (.val 13 (.val 14 (.val 15 (.val 16 (.val 18 (.val 19 (.val 20 (.val 21 (.eff 17 (.eff 22 (.val 23 .nil)))))))))))))))))))))))) 1024 [] rfl (by kernel_rfl) (fun _ _ _ _ _ h => h) ?_
  refine ord_val rfl rfl rfl rfl (fun _ h => h) (val_move rfl rfl) ?_
  refine ord_val rfl rfl rfl rfl (fun _ h => h) (val_shrw rfl rfl rfl (by decide)) ?_
  refine ord_val rfl rfl rfl rfl (fun _ h => h) (val_conv_int rfl Tryz.underlying3 Tryz.underlying5 rfl) ?_
  refine ord_val rfl rfl rfl rfl (fun _ h => h) (val_move rfl rfl) ?_
  refine ord_val rfl rfl rfl rfl (fun _ h => h) (val_shrw rfl rfl rfl (by decide)) ?_
  refine ord_val rfl rfl rfl rfl (fun _ h => h) (val_conv_int rfl Tryz.underlying3 Tryz.underlying5 rfl) ?_
  refine ord_val rfl rfl rfl rfl (fun _ h => h) (val_move rfl rfl) ?_
  refine ord_val rfl rfl rfl rfl (fun _ h => h) (val_shrw rfl rfl rfl (by decide)) ?_
  refine ord_val rfl rfl rfl rfl (fun _ h => h) (val_conv_int rfl Tryz.underlying3 Tryz.underlying5 rfl) ?_
  refine ord_val rfl rfl rfl rfl (fun _ h => h) (val_move rfl rfl) ?_
  refine ord_val rfl rfl rfl rfl (fun _ h => h) (val_conv_int rfl Tryz.underlying3 Tryz.underlying5 rfl) ?_
  refine ord_val rfl rfl rfl rfl (fun _ h => h) (val_move rfl rfl) ?_
  refine ord_val rfl rfl rfl rfl (fun _ h => h) (val_nilCheck rfl rfl (Ent.pure rfl)) ?_
  refine ord_val rfl rfl rfl rfl (fun _ h => h) (val_fieldAddr rfl Tryz.underlying239 0 2 (by kernel_rfl) (by decide) rfl (Ent.pure rfl)) ?_
  refine ord_val rfl rfl rfl rfl (fun _ h => h) (val_fieldAddr rfl Tryz.underlying236 1 1 (by kernel_rfl) (by decide) rfl (Ent.pure rfl)) ?_
  refine ord_val rfl rfl rfl rfl (fun _ h => h) (val_load (v := .int .i64 (f.h : Nat)) rfl Tryz.underlying3 rfl rfl (hi.box.rd rfl)) ?_
  refine ord_val rfl rfl rfl rfl (fun _ h => h) (val_conv_int rfl Tryz.underlying3 Tryz.underlying5 rfl) ?_
  refine ord_val rfl rfl rfl rfl (fun _ h => h) (val_move rfl rfl) ?_
  refine ord_val rfl rfl rfl rfl (fun _ h => h) (val_nilCheck rfl rfl (Ent.pure rfl)) ?_
  refine ord_val rfl rfl rfl rfl (fun _ h => h) (val_fieldAddr rfl Tryz.underlying239 2 1 (by kernel_rfl) (by decide) rfl (Ent.pure rfl)) ?_
  refine ord_val rfl rfl rfl rfl (fun _ h => h) (val_load (v := .slice f.A f.s.length f.c) rfl Tryz.underlying28 rfl rfl (hi.box.rd rfl)) ?_
  refine ord_eff (eff_buildSlice (len := 5) (sz := 1) (z := #[.int .u8 0]) rfl Tryz.underlying28 (by kernel_rfl) rfl rfl rfl (by decide) (by decide) rfl rfl) rfl rfl rfl rfl (.inr fun _ _ => (fun _ h => (Sats.keep [false] h :))) (fun b26 _ => ?_)
  refine ord_eff (eff_append1 (sz := 1) (bytes := 1) (z := .int .u8 0) 0 rfl Tryz.underlying28 (by kernel_rfl) rfl (by decide) (by decide) rfl rfl rfl hi.cons.row rfl (by rw [List.length_map, Nat.mul_one]) (all_bV _) (by omega)) rfl rfl rfl rfl (.inr fun _ _ => (fun _ h => (Sats.keep [false] h :))) (fun q31 _ => ?_)
  refine ord_val rfl rfl rfl rfl (fun _ h => (Sats.keep [false] h :)) (val_assign rfl rfl) ?_
  refine ord_nil ?_
  refine thru_on ?_
  refine pk_ret ?_
  refine ret1 rfl rfl fun w s => ⟨q31, trivial, by rw [e], s.to fun _ h => ?_⟩
  rw [e, filB, List.map_append, ← hdr_vals]
  exact (h)
end Go.Proofs.YtdpckendkklfdaaGreat
