/- The walks of package store, third part: Put. -/
import Derived.Test.YtdpckendkklfdaaGreatStB
set_option linter.unusedVariables false
set_option linter.unusedSimpArgs false
set_option maxRecDepth 100000
namespace Go.Proofs.YtdpckendkklfdaaGreat
open Go.RowKit Go.Proofs.Eng
def putStep (id now : Int) (ks : List ByteArray) (q : Sa × Bool) (p : Pr) : Sa × Bool := if ahas q.1.vs (p.1, id) = true then q else (putV q.1 (p.1, id) ⟨p.2, ks, if id < aget q.1.las p.1 0 then now else -1⟩, true)
def putOk (id : Int) (ps : List Pr) (ks : List ByteArray) (now : Int) : Bool := mayS id ps ks && tickB now
def putE (id : Int) (ps : List Pr) (ks : List ByteArray) (now : Int) : Int := if putOk id ps ks now = true then 0 else 1
def putF (a : Sa) (id : Int) (ps : List Pr) (ks : List ByteArray) (now : Int) : Sa × Bool := if putOk id ps ks now = true then ps.foldl (putStep id now ks) (a, false) else (a, false)
theorem Small.le {N M : Nat} {a : Sa} (h : Small N a) (k : N ≤ M) : Small M a := ⟨fun p hp => Nat.le_trans (h.ids p hp) k, fun p hp => Nat.le_trans (h.pls p hp) k, h.keys⟩
theorem Small.step {N : Nat} {q : Sa × Bool} {id now : Int} {ks : List ByteArray} (h : Small N q.1) (hk : ks.length ≤ 1024) (p : Pr) : Small (N + 1) (putStep id now ks q p).1 := by
  unfold putStep
  split
  · exact h.le (by omega)
  · exact h.putV _ hk
theorem Small.foldl {id now : Int} {ks : List ByteArray} (hk : ks.length ≤ 1024) : ∀ (ps : List Pr) {N : Nat} {q : Sa × Bool}, Small N q.1 → Small (N + ps.length) (ps.foldl (putStep id now ks) q).1
  | [], N, q, h => h
  | p :: r, N, q, h => by
    have := Small.foldl (id := id) (now := now) hk r (h.step hk p (id := id) (now := now))
    rw [List.length_cons, show N + (r.length + 1) = N + 1 + r.length by omega]
    exact this
theorem Small.put {N : Nat} {a : Sa} (h : Small N a) (id : Int) (ps : List Pr) (ks : List ByteArray) (now : Int) : Small (N + ps.length) (putF a id ps ks now).1 := by
  unfold putF
  split
  · rename_i he
    have hk : ks.length ≤ 1024 := by
      simp only [putOk, Bool.and_eq_true] at he
      exact ((risK_iff ks).1 ((mayS_iff _ _ _).1 he.1).keys).2.2.2
    exact Small.foldl hk ps h
  · exact h.le (by omega)
theorem foldl_take {α β : Type} (f : β → α → β) (d : α) {l : List α} {k : Nat} (h : k < l.length) (b : β) : (l.take (k + 1)).foldl f b = f ((l.take k).foldl f b) (l.getD k d) := by
  rw [List.take_succ_eq_append_getElem h, List.foldl_append]; simp [h]
theorem store_Put_c {E w : World} {L : List Ch} {B N : Nat} {S : St} {A D : Option Addr} {c d : Nat} {id now : Int} {ps : List Pr} {ks : List ByteArray} (s : Sat E w (stCh B S :: L)) (hp : Ent L (RdL A (ps.flatMap pC2))) (hr : Ent L (RdL D (ks.map .string))) (hl : ks.length ≤ 1099511627776) (hS : Small N S.a) (hN : N + ps.length ≤ 1099511627776) :
    Calls Tryz.prog 40 #[ptr (some ⟨B, 0, none⟩) 0, .int .u64 id, .slice A ps.length c, .slice D ks.length d, .int .i64 now] w (GivesX E (fun q : St × Bool => .tuple #[.bool q.2, .int .i64 (putE id ps ks now)]) (fun q => stCh B q.1 :: L) (fun q => (q.1.a, q.2) = putF S.a id ps ks now)) := by
  refine enter (vs := [_, _, _, _, _]) Tryz.func40 rfl Tryz.ntmps40 rfl s ?_
  refine pk_seq ?_
  refine pk_region ?_
  refine pk_val rfl rfl rfl (val_assign rfl rfl) ?_
  refine pk_val rfl rfl rfl (val_assign rfl rfl) ?_
  refine pk_nil ?_
  refine thru_on ?_
  refine pk_seq ?_
  refine pk_seq ?_
  refine pk_region ?_
  refine pk_val rfl rfl rfl (val_move rfl rfl) ?_
  refine pk_val rfl rfl rfl (val_move rfl rfl) ?_
  refine pk_val rfl rfl rfl (val_move rfl rfl) ?_
  refine pk_eff (eff_call1 rfl ⟨_, Tryz.func106, by kernel_rfl, rfl⟩ rfl (fun E w s => store_may_c s hp.cons hr.cons (by omega) (by omega))) rfl rfl rfl (fun _ _ => ?_)
  refine pk_val rfl rfl rfl (val_not rfl rfl) ?_
  by_cases hm : mayS id ps ks = true
  · skip
    refine Pk.slot 22 (v := .bool true) rfl (by rw [hm]) ?_
    refine Pk.slot 23 (v := .bool false) rfl (by rw [hm]; rfl) ?_
    refine pk_val rfl rfl rfl (val_move rfl rfl) ?_
    refine pk_guard_yes rfl rfl rfl ?_
    refine pk_val rfl rfl rfl (val_move rfl rfl) ?_
    refine pk_guard_yes rfl rfl rfl ?_
    refine pk_eff (eff_call1 rfl ⟨_, Tryz.func107, by kernel_rfl, rfl⟩ rfl (fun E w s => store_tick_c s)) rfl rfl rfl (fun _ _ => ?_)
    refine pk_guard_yes rfl rfl rfl ?_
    refine pk_val rfl rfl rfl (val_not rfl rfl) ?_
    refine pk_val rfl rfl rfl (val_pick rfl rfl rfl rfl) ?_
    refine pk_nil ?_
    refine thru_on ?_
    refine pk_ifb rfl (fun h0 => ?_) (fun h0 => ?_)
    · skip
      refine pk_seq ?_
      refine pk_region ?_
      refine pk_val rfl rfl rfl (val_assign rfl rfl) ?_
      refine pk_val rfl rfl rfl (val_assign rfl rfl) ?_
      refine pk_nil ?_
      refine thru_on ?_
      refine pk_ret ?_
      refine thru_ret ?_
      have eno : putOk id ps ks now = false := by rw [putOk, hm, (by simpa using h0 : tickB now = false)]; rfl
      refine ret2 rfl rfl rfl fun w s => ⟨(S, false), by rw [putF, eno]; rfl, ?_, s⟩
      rw [putE, eno]; rfl
    · skip
      refine pk_skip ?_
      refine thru_on ?_
      have hmay := (mayS_iff _ _ _).1 hm
      have hks := (risK_iff ks).1 hmay.keys
      have ht : tickB now = true := by simpa using h0
      have hok : putOk id ps ks now = true := by rw [putOk, hm, ht]; rfl
      refine pk_seq ?_
      refine pk_region ?_
      refine pk_val rfl rfl rfl (val_assign rfl rfl) ?_
      refine pk_nil ?_
      refine thru_on ?_
      refine pk_seq ?_
      refine pk_seq ?_
      refine pk_region ?_
      refine pk_val rfl rfl rfl (val_move rfl rfl) ?_
      refine pk_val rfl rfl rfl (val_len_slice rfl Tryz.underlying98 rfl) ?_
      refine pk_val rfl rfl rfl (val_move rfl rfl) ?_
      refine pk_nil ?_
      refine thru_on ?_
      refine pk_block ?_
      refine pk_loop (α := Nat × St × Bool) ((0, S, false)) (fun y => [(0, ptr (some ⟨B, 0, none⟩) 0), (1, .int .u64 id), (3, .slice D ks.length d), (4, .int .i64 now), (29, .slice A ps.length c), (30, .int .i64 (ps.length : Nat)), (12, .bool y.2.2), (31, .int .i64 (y.1 : Nat))]) (fun y => (stCh B y.2.1) :: L) (fun y => y.1 ≤ ps.length ∧ (y.2.1.a, y.2.2) = (ps.take y.1).foldl (putStep id now ks) (S.a, false)) (fun y => ps.length - y.1) ?_ ?_ ?_ ?_
      · (try dsimp only) <;> exact ⟨Nat.zero_le _, rfl⟩
      · exact ⟨(Sub.cons rfl (by first | rfl | (congr 1; omega) | simp) (Sub.cons rfl (by first | rfl | (congr 1; omega) | simp) (Sub.cons rfl (by first | rfl | (congr 1; omega) | simp) (Sub.cons rfl (by first | rfl | (congr 1; omega) | simp) (Sub.cons rfl (by first | rfl | (congr 1; omega) | simp) (Sub.cons rfl (by first | rfl | (congr 1; omega) | simp) (Sub.cons rfl (by first | rfl | (congr 1; omega) | simp) (Sub.cons rfl (by first | rfl | (congr 1; omega) | simp) (Sub.nil _))))))))), rfl⟩
      · exact (fun _ h => h)
      rintro ⟨k, T, fr⟩ ⟨hk0, hI⟩
      dsimp only at hk0 hI ⊢
      have hT : Small (N + k) T.a := by
        have := Small.foldl (id := id) (now := now) hks.2.2.2 (ps.take k) (q := (S.a, false)) hS
        rw [← hI, List.length_take, Nat.min_eq_left hk0] at this; exact this
      refine pk_seq ?_
      refine pk_region ?_
      refine pk_val rfl rfl rfl (val_lss rfl rfl rfl) ?_
      refine pk_nil ?_
      refine thru_on ?_
      refine pk_seq ?_
      refine pk_if rfl (fun h => ?_) (fun h => ?_)
      · skip
        refine pk_skip ?_
        refine thru_on ?_
        have hk : k < ps.length := by omega
        refine Pk.tells (hp.cons.some_of (by rw [flat_length pC2_len]; omega)) fun hA => ?_
        refine Pk.pull 0 rfl ?_
        refine Pk.heap (fun _ h => st_open h) ?_
        refine pk_seq ?_
        refine pk_block ?_
        refine pk_seq ?_
        refine pk_region ?_
        refine pk_val rfl rfl rfl (val_indexAddr rfl Tryz.underlying98 2 (by kernel_rfl) rfl rfl k rfl hk (Ent.pure hA)) ?_
        refine pk_val rfl rfl rfl (val_loads (vs := pC2 (ps.getD k dPr)) rfl Tryz.underlying97 rfl (by kernel_rfl) rfl (Ent.pure hA) (hp.cons.cons.cons.cons.cons.cons.cons.cons.rds (flat_rds pC2_len dPr hk))) ?_
        refine pk_eff (eff_alloc (z := [.string ⟨#[]⟩, .string ⟨#[]⟩]) rfl (by kernel_rfl)) rfl rfl rfl (fun b14 _ => ?_)
        refine pk_eff0 (eff_storeW 0 rfl rfl rfl rfl rfl (by kernel_rfl) rfl rfl rfl) rfl rfl (fun _ _ => ?_)
        refine pk_nil ?_
        refine thru_on ?_
        refine pk_seq ?_
        refine pk_region ?_
        refine pk_val rfl rfl rfl (val_fieldAddr rfl Tryz.underlying97 0 1 (by kernel_rfl) (by decide) rfl (Ent.pure rfl)) ?_
        refine pk_val rfl rfl rfl (val_load (v := .string (ps.getD k dPr).1) rfl Tryz.underlying9 rfl rfl ((Ent.own 0 rfl).rd rfl)) ?_
        refine pk_val rfl rfl rfl (val_move rfl rfl) ?_
        refine pk_val rfl rfl rfl (val_build (z := [.string ⟨#[]⟩, .int .u64 0]) [(0, 1), (1, 1)] rfl Tryz.underlying185 (by kernel_rfl) (by kernel_rfl) rfl rfl rfl) ?_
        refine pk_eff (eff_alloc (z := [.string ⟨#[]⟩, .int .u64 0]) rfl (by kernel_rfl)) rfl rfl rfl (fun b15 _ => ?_)
        refine pk_eff0 (eff_storeW 0 rfl rfl rfl rfl rfl (by kernel_rfl) rfl rfl rfl) rfl rfl (fun _ _ => ?_)
        refine pk_nil ?_
        refine thru_on ?_
        refine pk_seq ?_
        refine pk_seq ?_
        refine pk_drawk (.val 0 (.val 1 (.val 2 (.val 3 (.val 4 (.val 5 (.val 6 (.val 7 (.val 8 (.eff 9 (.eff 10 (.val 11 .nil)))))))))))) 1012 [] rfl (by kernel_rfl) (fun _ _ _ _ _ h => h) ?_
        refine ord_val rfl rfl rfl rfl (fun _ h => h) (val_move rfl rfl) ?_
        refine ord_val rfl rfl rfl rfl (fun _ h => h) (val_nilCheck rfl rfl (Ent.pure rfl)) ?_
        refine ord_val rfl rfl rfl rfl (fun _ h => h) (val_fieldAddr rfl Tryz.underlying164 0 1 (by kernel_rfl) (by decide) rfl (Ent.pure rfl)) ?_
        refine ord_val rfl rfl rfl rfl (fun _ h => h) (val_load rfl Tryz.underlying159 rfl rfl ((Ent.own 2 rfl).rd rfl)) ?_
        refine ord_val rfl rfl rfl rfl (fun _ h => h) (val_loads rfl Tryz.underlying185 rfl (by kernel_rfl) rfl (Ent.pure rfl) ((Ent.own 0 rfl).rds (fun j v h => by rw [Nat.zero_add j]; exact h))) ?_
        refine ord_val rfl rfl rfl rfl (fun _ h => h) (val_lookup_ok (k := ((ps.getD k dPr).1, id)) dHd rfl Tryz.underlying159 koN (by kernel_rfl) rfl rfl rfl (Ent.map 3 rfl)) ?_
        refine ord_val rfl rfl rfl rfl (fun _ h => h) (val_move rfl rfl) ?_
        refine ord_val rfl rfl rfl rfl (fun _ h => h) (val_extract rfl rfl rfl) ?_
        refine ord_val rfl rfl rfl rfl (fun _ h => h) (val_extract rfl rfl rfl) ?_
        refine ord_eff (eff_alloc (z := [.string ⟨#[]⟩, .slice none 0 0, .int .i64 0]) rfl (by kernel_rfl)) rfl rfl rfl rfl (.inr fun _ _ => (fun _ h => (Sats.keep [false, true, true, true, true, true, true, true, true, true, true] h :))) (fun b16 _ => ?_)
        refine ord_eff0 (eff_storeW 0 rfl rfl rfl rfl rfl (by kernel_rfl) rfl rfl rfl) rfl rfl rfl (.inr fun _ _ => (fun _ h => (Sats.keep [false, true, true, true, true, true, true, true, true, true, true] h :))) (fun _ _ => ?_)
        refine ord_val rfl rfl rfl rfl (fun _ h => (Sats.keep [false, true, true, true, true, true, true, true, true, true, true] h :)) (val_assign rfl rfl) ?_
        refine ord_nil ?_
        refine thru_on ?_
        refine pk_seq ?_
        refine pk_region ?_
        refine pk_val rfl rfl rfl (val_move rfl rfl) ?_
        refine pk_nil ?_
        refine thru_on ?_
        refine pk_ifb rfl (fun h2 => ?_) (fun h2 => ?_)
        · skip
          have hst : putStep id now ks (T.a, fr) (ps.getD k dPr) = (T.a, fr) := by rw [putStep, if_pos]; rw [← st_has]; exact h2
          refine pk_exit ?_
          refine thru ?_
          refine pk_here ?_
          refine thru_on ?_
          refine pk_region ?_
          refine pk_val rfl rfl rfl (val_add rfl rfl rfl (by omega)) ?_
          refine pk_val rfl rfl rfl (val_move rfl rfl) ?_
          refine pk_nil ?_
          refine thru_on ?_
          refine pk_next (x := ⟨k, T, fr⟩) ((k + 1, T, fr)) ?_ ?_ ?_ ?_
          · (try dsimp only) <;> exact ⟨hk, by rw [foldl_take _ dPr hk, ← hI]; exact hst.symm⟩
          · (try dsimp only); exact (by omega)
          · exact ⟨(Sub.cons rfl (by first | rfl | (congr 1; omega) | simp) (Sub.cons rfl (by first | rfl | (congr 1; omega) | simp) (Sub.cons rfl (by first | rfl | (congr 1; omega) | simp) (Sub.cons rfl (by first | rfl | (congr 1; omega) | simp) (Sub.cons rfl (by first | rfl | (congr 1; omega) | simp) (Sub.cons rfl (by first | rfl | (congr 1; omega) | simp) (Sub.cons rfl (by first | rfl | (congr 1; omega) | simp) (Sub.cons rfl (by first | rfl | (congr 1; omega) | simp) (Sub.nil _))))))))), rfl⟩
          · exact (fun _ h => (st_shut (Sats.keep [false, false, false, true, true, true, true, true, true, true, true] h)))
        · skip
          refine pk_skip ?_
          refine thru_on ?_
          have hst : putStep id now ks (T.a, fr) (ps.getD k dPr) = (putV T.a ((ps.getD k dPr).1, id) ⟨(ps.getD k dPr).2, ks, if id < aget T.las (ps.getD k dPr).1 0 then now else -1⟩, true) := if_neg (by show ¬ ahas T.a.vs _ = true; rw [← st_has, h2]; decide)
          refine pk_seq ?_
          refine pk_region ?_
          refine pk_val rfl rfl rfl (val_assign rfl rfl) ?_
          refine pk_nil ?_
          refine thru_on ?_
          refine pk_seq ?_
          refine pk_region ?_
          refine pk_val rfl rfl rfl (val_assign rfl rfl) ?_
          refine pk_nil ?_
          refine thru_on ?_
          refine pk_cut (α := Unit) (fun y => [(0, ptr (some ⟨B, 0, none⟩) 0), (1, .int .u64 id), (3, .slice D ks.length d), (4, .int .i64 now), (29, .slice A ps.length c), (30, .int .i64 (ps.length : Nat)), (12, .bool true), (14, ptr (some ⟨b14, 0, none⟩) 0), (15, ptr (some ⟨b15, 0, none⟩) 0), (18, .int .i64 (if id < aget T.las (ps.getD k dPr).1 0 then now else -1)), (31, .int .i64 (k : Nat))]) (fun y => (own (some ⟨b15, 0, none⟩) 1 1 185 2 [.string (ps.getD k dPr).1, .int .u64 id]) :: (own (some ⟨b14, 0, none⟩) 1 1 97 2 [.string (ps.getD k dPr).1, .string (ps.getD k dPr).2]) :: (own (some ⟨B, 0, none⟩) 1 1 164 4 [.map (some T.m1), .map (some T.m2), .map (some T.m3), .map (some T.m4)]) :: (mapc (some T.m1) (encP .u64) Hd.v T.vs) :: (cat (T.vs.map hdCh)) :: (mapc (some T.m2) encT Ri.v T.ids) :: (cat (T.ids.map riCh)) :: (mapc (some T.m3) encN Rs.v T.pls) :: (cat (T.pls.map rsCh)) :: (mapc (some T.m4) encT encN T.las) :: L) (fun y => True) ?_ ?_
          · skip
            refine pk_seq ?_
            refine pk_drawk (.val 0 (.val 1 (.val 2 (.val 3 (.val 4 (.val 5 (.val 6 (.val 7 (.val 8 .nil))))))))) 1009 [] rfl (by kernel_rfl) (fun _ _ _ _ _ h => h) ?_
            refine ord_val rfl rfl rfl rfl (fun _ h => h) (val_move rfl rfl) ?_
            refine ord_val rfl rfl rfl rfl (fun _ h => h) (val_move rfl rfl) ?_
            refine ord_val rfl rfl rfl rfl (fun _ h => h) (val_nilCheck rfl rfl (Ent.pure rfl)) ?_
            refine ord_val rfl rfl rfl rfl (fun _ h => h) (val_fieldAddr rfl Tryz.underlying164 3 1 (by kernel_rfl) (by decide) rfl (Ent.pure rfl)) ?_
            refine ord_val rfl rfl rfl rfl (fun _ h => h) (val_load rfl Tryz.underlying162 rfl rfl ((Ent.own 3 rfl).rd rfl)) ?_
            refine ord_val rfl rfl rfl rfl (fun _ h => h) (val_fieldAddr rfl Tryz.underlying97 0 1 (by kernel_rfl) (by decide) rfl (Ent.pure rfl)) ?_
            refine ord_val rfl rfl rfl rfl (fun _ h => h) (val_load (v := .string (ps.getD k dPr).1) rfl Tryz.underlying9 rfl rfl ((Ent.own 2 rfl).rd rfl)) ?_
            refine ord_val rfl rfl rfl rfl (fun _ h => h) (val_lookup (k := (ps.getD k dPr).1) (0 : Int) rfl Tryz.underlying162 koS (by kernel_rfl) rfl rfl rfl (Ent.map 10 rfl)) ?_
            refine ord_val rfl rfl rfl rfl (fun _ h => h) (val_lss rfl rfl rfl) ?_
            refine ord_nil ?_
            refine thru_on ?_
            refine pk_if rfl (fun h3 => ?_) (fun h3 => ?_)
            · skip
              refine pk_region ?_
              refine pk_val rfl rfl rfl (val_move rfl rfl) ?_
              refine pk_val rfl rfl rfl (val_assign rfl rfl) ?_
              refine pk_nil ?_
              refine thru_on ?_
              refine pk_fin (()) ?_ ?_ ?_
              · (try dsimp only) <;> exact trivial
              · exact ⟨(Sub.cons rfl (by first | rfl | (congr 1; omega) | simp) (Sub.cons rfl (by first | rfl | (congr 1; omega) | simp) (Sub.cons rfl (by first | rfl | (congr 1; omega) | simp) (Sub.cons rfl (by first | rfl | (congr 1; omega) | simp) (Sub.cons rfl (by first | rfl | (congr 1; omega) | simp) (Sub.cons rfl (by first | rfl | (congr 1; omega) | simp) (Sub.cons rfl (by first | rfl | (congr 1; omega) | simp) (Sub.cons rfl (by first | rfl | (congr 1; omega) | simp) (Sub.cons rfl (by first | rfl | (congr 1; omega) | simp) (Sub.cons rfl (by rw [if_pos h3]) (Sub.cons rfl (by first | rfl | (congr 1; omega) | simp) (Sub.nil _)))))))))))), rfl⟩
              · exact (fun _ h => Sats.keep [false, true, true, true, true, true, true, true, true, true, true] h)
            · skip
              refine pk_skip ?_
              refine thru_on ?_
              refine pk_fin (()) ?_ ?_ ?_
              · (try dsimp only) <;> exact trivial
              · exact ⟨(Sub.cons rfl (by first | rfl | (congr 1; omega) | simp) (Sub.cons rfl (by first | rfl | (congr 1; omega) | simp) (Sub.cons rfl (by first | rfl | (congr 1; omega) | simp) (Sub.cons rfl (by first | rfl | (congr 1; omega) | simp) (Sub.cons rfl (by first | rfl | (congr 1; omega) | simp) (Sub.cons rfl (by first | rfl | (congr 1; omega) | simp) (Sub.cons rfl (by first | rfl | (congr 1; omega) | simp) (Sub.cons rfl (by first | rfl | (congr 1; omega) | simp) (Sub.cons rfl (by first | rfl | (congr 1; omega) | simp) (Sub.cons rfl (by rw [if_neg h3]) (Sub.cons rfl (by first | rfl | (congr 1; omega) | simp) (Sub.nil _)))))))))))), rfl⟩
              · exact (fun _ h => Sats.keep [false, true, true, true, true, true, true, true, true, true, true] h)
          rintro _ _
          refine pk_drawk (.val 0 (.val 1 (.val 2 (.val 3 (.val 4 (.val 6 (.eff 5 (.val 7 (.eff 8 .nil))))))))) 8 [] rfl (by kernel_rfl) (fun _ _ _ _ _ h => h) ?_
          refine ord_val rfl rfl rfl rfl (fun _ h => h) (val_move rfl rfl) ?_
          refine ord_val rfl rfl rfl rfl (fun _ h => h) (val_loads rfl Tryz.underlying185 rfl (by kernel_rfl) rfl (Ent.pure rfl) ((Ent.own 0 rfl).rds (fun j v h => by rw [Nat.zero_add j]; exact h))) ?_
          refine ord_val rfl rfl rfl rfl (fun _ h => h) (val_fieldAddr rfl Tryz.underlying97 1 1 (by kernel_rfl) (by decide) rfl (Ent.pure rfl)) ?_
          refine ord_val rfl rfl rfl rfl (fun _ h => h) (val_load (v := .string (ps.getD k dPr).2) rfl Tryz.underlying9 rfl rfl ((Ent.own 1 rfl).rd rfl)) ?_
          refine ord_val rfl rfl rfl rfl (fun _ h => h) (val_move rfl rfl) ?_
          refine ord_val rfl rfl rfl rfl (fun _ h => h) (val_move rfl rfl) ?_
          refine ord_eff (eff_callx rfl ⟨_, Tryz.func109, by kernel_rfl, rfl⟩ rfl (fun E w s => slices_Clone_string_c s hr.cons.cons.cons.cons.cons.cons.cons.cons.cons.cons hl)) rfl rfl rfl rfl (.inr fun _ _ => (fun _ h => (Sats.keep [false, true, true, true, true, true, true, true, true, true, true] h :))) (fun q64 _ => ?_)
          refine ord_val rfl rfl rfl rfl (fun _ h => (Sats.keep [false, true, true, true, true, true, true, true, true, true, true] h :)) (val_build (z := [.string ⟨#[]⟩, .slice none 0 0, .int .i64 0]) [(0, 1), (1, 1), (2, 1)] rfl Tryz.underlying187 (by kernel_rfl) (by kernel_rfl) rfl rfl rfl) ?_
          refine ord_eff (eff_callx rfl ⟨_, Tryz.func108, by kernel_rfl, rfl⟩ rfl (fun E w s => store_put_c (n := ((ps.getD k dPr).1, id)) (hd := ⟨(ps.getD k dPr).2, ks, if id < aget T.las (ps.getD k dPr).1 0 then now else -1, q64.1, q64.2⟩) (s.to fun _ h => (st_shut ((Sats.pick 11 [3, 4, 5, 6, 7, 8, 9, 10, 0, 1, 2] rfl h :)))) h2 hT (by omega))) rfl rfl rfl rfl (.inl rfl) (fun q67 hq67 => ?_)
          refine ord_nil ?_
          refine in_on ?_
          refine thru_on ?_
          refine pk_region ?_
          refine pk_val rfl rfl rfl (val_add rfl rfl rfl (by omega)) ?_
          refine pk_val rfl rfl rfl (val_move rfl rfl) ?_
          refine pk_nil ?_
          refine thru_on ?_
          refine pk_next (x := ⟨k, T, fr⟩) ((k + 1, q67, true)) ?_ ?_ ?_ ?_
          · (try dsimp only) <;> exact ⟨hk, by rw [foldl_take _ dPr hk, ← hI, hst]; exact congrArg (fun x => (x, true)) hq67⟩
          · (try dsimp only); exact (by omega)
          · exact ⟨(Sub.cons rfl (by first | rfl | (congr 1; omega) | simp) (Sub.cons rfl (by first | rfl | (congr 1; omega) | simp) (Sub.cons rfl (by first | rfl | (congr 1; omega) | simp) (Sub.cons rfl (by first | rfl | (congr 1; omega) | simp) (Sub.cons rfl (by first | rfl | (congr 1; omega) | simp) (Sub.cons rfl (by first | rfl | (congr 1; omega) | simp) (Sub.cons rfl (by first | rfl | (congr 1; omega) | simp) (Sub.cons rfl (by first | rfl | (congr 1; omega) | simp) (Sub.nil _))))))))), rfl⟩
          · exact (fun _ h => (Sats.keep [true, false, false] h))
      · skip
        refine pk_exit ?_
        refine thru ?_
        refine thru ?_
        refine pk_here ?_
        refine thru_on ?_
        refine pk_seq ?_
        refine pk_region ?_
        refine pk_val rfl rfl rfl (val_move rfl rfl) ?_
        refine pk_val rfl rfl rfl (val_assign rfl rfl) ?_
        refine pk_val rfl rfl rfl (val_assign rfl rfl) ?_
        refine pk_nil ?_
        refine thru_on ?_
        refine pk_ret ?_
        have hkk : k = ps.length := by omega
        subst hkk
        rw [List.take_length] at hI
        refine ret2 rfl rfl rfl fun w s => ⟨(T, fr), by rw [putF, if_pos hok]; exact hI, ?_, s⟩
        rw [putE, if_pos hok]
  · skip
    have hm : mayS id ps ks = false := by simpa using hm
    refine Pk.slot 23 (v := .bool true) rfl (by rw [hm]; rfl) ?_
    refine pk_val rfl rfl rfl (val_move rfl rfl) ?_
    refine pk_guard_no rfl rfl rfl rfl rfl rfl ?_
    refine pk_guard_no rfl rfl rfl rfl rfl rfl ?_
    refine pk_guard_no rfl rfl rfl rfl rfl rfl ?_
    refine pk_val rfl rfl rfl (val_pick rfl rfl rfl rfl) ?_
    refine pk_nil ?_
    refine thru_on ?_
    refine pk_cond_t rfl ?_
    refine pk_seq ?_
    refine pk_region ?_
    refine pk_val rfl rfl rfl (val_assign rfl rfl) ?_
    refine pk_val rfl rfl rfl (val_assign rfl rfl) ?_
    refine pk_nil ?_
    refine thru_on ?_
    refine pk_ret ?_
    refine thru_ret ?_
    have eno : putOk id ps ks now = false := by rw [putOk, hm]; rfl
    refine ret2 rfl rfl rfl fun w s => ⟨(S, false), by rw [putF, eno]; rfl, ?_, s⟩
    rw [putE, eno]; rfl
end Go.Proofs.YtdpckendkklfdaaGreat
