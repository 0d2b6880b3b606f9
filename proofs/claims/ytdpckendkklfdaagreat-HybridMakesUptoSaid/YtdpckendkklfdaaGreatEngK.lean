/- The engine, part 11: copy, append of zeros, slices.overlaps, a text's byte, what slicing from the left gives. -/
import Derived.Test.YtdpckendkklfdaaGreatEngI
import Derived.Lib.Overlaps
import Derived.Lib.AppendZerosOnto
import Derived.Laws.Externs
set_option linter.unusedVariables false
set_option linter.unusedSimpArgs false
set_option linter.unusedSectionVars false
namespace Go.Proofs.Eng
open Go.RowKit
theorem drop_one {xs : List Value} {k : Nat} (h : xs.all (·.oneCell') = true) : (xs.drop k).all (·.oneCell') = true := List.all_eq_true.2 fun v hv => List.all_eq_true.1 h v (List.mem_of_mem_drop hv)
theorem splice_nil (xs : List Value) (k : Nat) : splice xs k [] = xs := by simp [splice]
theorem subA_of {A : Option Addr} {c l s : Nat} (h : l < c) : subA A c l s = A.map (·.add (l * s)) := by
  unfold subA; rw [if_neg (by omega)]
section
variable {P : Program} {m : List (Nat × Value)} {L : List Ch} {o : Oper}
theorem eff_copy {t t' e : TypeId} {x y : Operand} (i : Nat) {A D B : Option Addr} {n cap k dl cd m' cs sz sz' : Nat} {T : TypeId} {xs ys : List Value} (ho : o.op = .call { callee := .builtin .copy, args := #[x, y], argTypes := #[t, t'] }) (ht : P.underlying t = some (.slice e))
    (hs : (P.info? e).map (fun i => i.size) = some sz) (hsz : 0 < sz) (hx : ev m x = some (.slice D dl cd)) (hy : ev m y = some (.slice B m' cs)) (hL : L[i]? = some (own A n cap T sz' xs)) (hD : dl = 0 ∨ D = A.map (·.add (k * sz)))
    (hB : Ent L (RdL B ys)) (hys : min m' dl * sz ≤ ys.length) (h1 : ys.all (·.oneCell') = true) (hfit : k * sz + min m' dl * sz ≤ xs.length) :
    Eff P m L o (fun _ : Unit => .int .i64 ((min m' dl : Nat) : Int)) (fun _ => L.set i (own A n cap T sz' (splice xs (k * sz) (ys.take (min m' dl * sz))))) (fun _ => True) := fun E a w f st => by
  obtain ⟨info, hi, hsize⟩ := Option.map_eq_some_iff.1 hs
  have hx' := f _ _ hx
  have hy' := f _ _ hy
  have hrun : (execOp a.eval o).run P w = ((Builtin.copy_ #[t, t'] o.type #[.slice D dl cd, .slice B m' cs]).run P w).andThen fun v w' => .ok (.value v) w' := by
    simp [execOp, ho, resolve, invoke, builtin, hx', hy']
  by_cases hm0 : min m' dl = 0
  · have hfc : (Builtin.firstCells sz 0 (.slice B m' cs)).run P w = .ok #[] w := by
      cases B with
      | none => simp [Builtin.firstCells]
      | some b => simp [Builtin.firstCells, loadCells, loadCellsFrom]
    have hcp : (Builtin.copy_ #[t, t'] o.type #[.slice D dl cd, .slice B m' cs]).run P w = .ok (.int .i64 0) w := by
      have hm0' : Nat.min m' dl = 0 := hm0
      cases D <;> simp [Builtin.copy_, run_underlying ht, Builtin.lenOf, sizeOf, typeInfo, hi, hsize, hm0', hfc, storeCells, goInt]
    refine .inl ⟨(), w, trivial, ?_, .inl ?_⟩
    · rw [hm0, Nat.zero_mul, List.take_zero, splice_nil]
      refine st.to fun h s => ?_
      have : L.set i (own A n cap T sz' xs) = L := by
        apply List.ext_getElem?
        intro j
        rw [List.getElem?_set]
        split
        · rename_i e; subst e
          rw [hL]
          have := (List.getElem?_eq_some_iff.1 hL).1
          simp [this]
        · rfl
      rw [this]; exact s
    · rw [hrun, hcp, hm0]; rfl
  · have hpos : 0 < min m' dl := by omega
    obtain ⟨h1', hle, hown, hup⟩ := Sats.upd hL st.heap
    have hjs : 0 < min m' dl * sz := Nat.mul_pos hpos hsz
    have hD' : D = A.map (·.add (k * sz)) := hD.resolve_left (by omega)
    obtain ⟨b, rfl⟩ : ∃ b, B = some b := by
      obtain ⟨b, hb, _⟩ := hB _ st.heap 0 (ys[0]'(by omega)) (List.getElem?_eq_getElem (by omega))
      exact ⟨b, hb⟩
    obtain ⟨ha, hb, hc, hd⟩ := hown
    rcases hd with ⟨rfl, _, rfl⟩ | ⟨g, rest, rfl, hcell, hlen⟩
    · have := hfit; simp only [List.length_nil] at this; omega
    · have hw : w.heap[g]? = some (.cells (xs ++ rest).toArray T (0, 0)) := hle g _ hcell
      have hDa : D = some ⟨g, k * sz, none⟩ := by rw [hD']; show some ((⟨g, 0, none⟩ : Addr).add (k * sz)) = _; rw [addr_mk, Nat.zero_add]
      have hyl : (ys.take (min m' dl * sz)).length = min m' dl * sz := by simp; omega
      have hsrc : ∀ j v, (ys.take (min m' dl * sz))[j]? = some v → w.cell? (b.add j) = some v := fun j v hv => by
        have hv' : ys[j]? = some v := by
          rw [List.getElem?_take] at hv
          split at hv
          · exact hv
          · cases hv
        obtain ⟨b', e1, e2⟩ := hB _ st.heap j v hv'
        cases e1; exact e2
      have hl := run_loadCells_list (P := P) w b (ys.take (min m' dl * sz)) hsrc
      rw [hyl] at hl
      have hst := run_storeCells_at P g (k * sz) T (ys.take (min m' dl * sz)) 0 (xs ++ rest).toArray w hw (by rw [hyl]; simp; omega) (fun v hv => List.all_eq_true.1 h1 v (List.mem_of_mem_take hv))
      simp only [Nat.add_zero] at hst
      have hmin : Nat.min m' dl = min m' dl := rfl
      have hcp : (Builtin.copy_ #[t, t'] o.type #[.slice D dl cd, .slice (some b) m' cs]).run P w = .ok (.int .i64 ((min m' dl : Nat) : Int)) (w.setRow g ((xs ++ rest).toArray.toList.take (k * sz) ++ ys.take (min m' dl * sz) ++ (xs ++ rest).toArray.toList.drop (k * sz + (ys.take (min m' dl * sz)).length)).toArray) := by
        rw [hDa]
        simp [Builtin.copy_, run_underlying ht, Builtin.lenOf, Builtin.firstCells, sizeOf, typeInfo, hi, hsize, hmin, hl, hst, goInt]
      obtain ⟨W', hW'⟩ : ∃ W', W' = w.setRow g ((xs ++ rest).toArray.toList.take (k * sz) ++ ys.take (min m' dl * sz) ++ (xs ++ rest).toArray.toList.drop (k * sz + (ys.take (min m' dl * sz)).length)).toArray := ⟨_, rfl⟩
      rw [← hW'] at hcp
      refine .inl ⟨(), W', trivial, ⟨by rw [hW']; exact st.os, by rw [hW']; exact st.tape, by rw [hW']; exact st.output, ?_⟩, .inl (by rw [hrun, hcp]; rfl)⟩
      rw [hW', hp_setRow hw]
      have hk : k * sz + (ys.take (min m' dl * sz)).length ≤ xs.length := by rw [hyl]; exact hfit
      refine hup _ g _ (by rw [hcell]; simp) ⟨by rw [splice_length hk]; exact ha, hb, hc, .inr ⟨g, rest, rfl, ?_, ?_⟩⟩
      · rw [upd_same]
        congr 3
        rw [← splice_append hk]; rfl
      · rw [List.length_append, splice_length hk, ← List.length_append]; exact hlen
/-- append of n zeros, where there is no room: a new row beside the one that was -/
theorem eff_appendZ {t tn e : TypeId} {x y : Operand} (i : Nat) {A : Option Addr} {n cap k l sz bytes : Nat} {T : TypeId} {xs : List Value} {z : Value} {kn kq : IntKind} {zk : Int} (ho : o.op = .call { callee := .builtin .append, args := #[x, y], argTypes := #[t, tn] }) (ht : P.underlying t = some (.slice e)) (htn : P.underlying tn = some (.int kn))
    (hi : (P.info? e).map (fun i => (i.zero, i.size, i.bytes)) = some (some z, sz, bytes)) (hzs : z.cells.size = sz) (hsz : 0 < sz) (hby : 0 < bytes)
    (hx : ev m x = some (.slice A l cap)) (hy : ev m y = some (.int kq zk)) (hz : zk = (k : Int)) (hL : L[i]? = some (own A n cap T sz xs)) (hl : l * sz ≤ xs.length) (hk : 0 < k) (hg : cap < l + k)
    (hfit : (l + k + (l + k) / 4 + 192) * bytes ≤ 281474976710656) :
    Eff P m L o (fun q : Nat × Nat × List Value => .slice (some ⟨q.1, 0, none⟩) (l + k) q.2.1) (fun q => own (some ⟨q.1, 0, none⟩) (l + k) q.2.1 e sz (xs.take (l * sz) ++ q.2.2) :: L) (fun q => q.2.2.length = k * sz) := fun E a w f st => by
  subst hz
  obtain ⟨info, hinfo, hz0⟩ := Option.map_eq_some_iff.1 hi
  simp only [Prod.mk.injEq] at hz0
  obtain ⟨hz1, hz2, hz3⟩ := hz0
  subst hz2
  subst hz3
  have hsmall := wide_one hfit hby
  have st1 : Sat E w.drew L := st.drew
  have hold : (Builtin.firstCells info.size l (.slice A l cap)).run P w.drew = .ok (xs.take (l * info.size)).toArray w.drew := by
    have hrd : Ent L (RdL A xs) := Ent.own i hL
    cases A with
    | none =>
      have : xs.take (l * info.size) = [] := by
        cases e : xs.take (l * info.size) with
        | nil => rfl
        | cons v r =>
          obtain ⟨a', h, _⟩ := hrd _ st1.heap 0 v (by
            have := congrArg (fun q => q[0]?) e
            rw [List.getElem?_take] at this
            split at this
            · simpa using this
            · simp at this)
          cases h
      rw [this]; simp [Builtin.firstCells]
    | some b =>
      have := run_loadCells_list (P := P) w.drew b (xs.take (l * info.size)) fun j v e => by
        have e' : xs[j]? = some v := by
          rw [List.getElem?_take] at e
          split at e
          · exact e
          · cases e
        obtain ⟨b', h, hc⟩ := hrd _ st1.heap j v e'
        cases h; exact hc
      have hlen : (xs.take (l * info.size)).length = l * info.size := by simp; omega
      rw [hlen] at this
      simp [Builtin.firstCells, this]
  have hbk : k * info.bytes ≤ 281474976710656 := by
    have : k * info.bytes ≤ (l + k + (l + k) / 4 + 192) * info.bytes := Nat.mul_le_mul_right _ (by omega)
    omega
  have hr := Lib.run_append_grow_zeros (P := P) w t tn o.type e info z kq kn ht htn hinfo hz1 A l cap (xs.take (l * info.size)) hold k hk hsz hg (by omega) hbk (growslice_fits_wide (by omega) hfit)
  have hge := grownCap_ge w (l + k) cap e
  have hcm : grownCap w (l + k) cap e ≤ maxLen := grownCap_le_maxLen w (l + k) cap e (by simp only [maxLen]; omega)
  have hpl : (xs.take (l * info.size)).length = l * info.size := by simp; omega
  have hzl : (Builtin.zeroCells z.cells k).toList.length = k * info.size := by rw [Array.length_toList, size_zeroCells, hzs]
  refine .inl ⟨(w.heap.size, grownCap w (l + k) cap e, (Builtin.zeroCells z.cells k).toList), w.drew.alloc (.cells ((xs.take (l * info.size)).toArray ++ Builtin.zeroCells z.cells k ++ Builtin.zeroCells z.cells (grownCap w (l + k) cap e - (l + k))) e), hzl, st1.alloc _ _ fun h hh => ?_, .inl ?_⟩
  rotate_left
  · have hrun : (execOp a.eval o).run P w = ((Builtin.append_ #[t, tn] o.type #[.slice A l cap, .int kq k]).run P w).andThen fun v w' => .ok (.value v) w' := by
      simp [execOp, ho, resolve, invoke, builtin, f _ _ hx, f _ _ hy]
    rw [hrun, hr]; rfl
  · refine ⟨?_, hge, hcm, .inr ⟨_, (Builtin.zeroCells z.cells (grownCap w (l + k) cap e - (l + k))).toList, rfl, ?_, ?_⟩⟩
    · rw [List.length_append, hpl, hzl, Nat.add_mul]; exact Nat.le_refl _
    · rw [show h w.heap.size = _ from hh]
      congr 2
      apply Array.ext'
      simp
    · simp only [List.length_append, hpl, hzl]
      rw [Array.length_toList, size_zeroCells, hzs, ← Nat.add_mul, ← Nat.add_mul]
      congr 1; omega
theorem val_index_string {t : TypeId} {x y : Operand} {s : ByteArray} {z : Int} {kd : IntKind} (ho : o.op = .index t x y) (ht : P.underlying t = some .string) (hx : ev m x = some (.string s)) (hy : ev m y = some (.int kd z)) (j : Nat) (hj : z = (j : Int)) (hlt : j < s.size) :
    Val P m L o (.int .u8 ((s.data.toList.getD j 0).toNat : Nat)) := fun a w f _ => by
  subst hj
  have h := run_index_string (P := P) w t s kd (j : Int) ht
  have h1 : 0 ≤ (j : Int) ∧ (j : Int) < s.size := by omega
  rw [dif_pos h1] at h
  have e : (s[(j : Int).toNat]'(by omega)) = s.data.toList.getD j 0 := by
    have hl : j < s.data.toList.length := by simpa using hlt
    have hl' : j < s.data.size := hlt
    simp only [Int.toNat_natCast, List.getD_eq_getElem?_getD, Array.getElem?_toList]
    rw [Array.getElem?_eq_getElem hl']
    rfl
  rw [e] at h
  simp [execOp, ho, f _ _ hx, f _ _ hy, h]
/-- two rows of ours lie apart -/
theorem own_apart {i j : Nat} {A B : Option Addr} {n n' c c' s s' : Nat} {T T' : TypeId} {xs ys : List Value} {h : Hp} (hi : L[i]? = some (own A n c T s xs)) (hj : L[j]? = some (own B n' c' T' s' ys)) (hne : i ≠ j) (st : Sats L h) {a b : Addr} (ha : A = some a) (hb : B = some b) : a.block ≠ b.block := by
  obtain ⟨f, f1, f2⟩ := Sats.iff.1 st
  have h1 := (f1 i _ hi).1
  have h2 := (f1 j _ hj).1
  subst ha hb
  rcases h1.2.2.2 with ⟨e, _⟩ | ⟨g, r, e, hg, _⟩
  · cases e
  · rcases h2.2.2.2 with ⟨e', _⟩ | ⟨g', r', e', hg', _⟩
    · cases e'
    · cases e; cases e'
      intro hgg
      subst hgg
      rcases f2 i j (List.getElem?_eq_some_iff.1 hi).1 (List.getElem?_eq_some_iff.1 hj).1 hne g with h | h
      · rw [h] at hg; cases hg
      · rw [h] at hg'; cases hg'
theorem eff_overlaps {g : FuncId} {fn : Func} {x y : Operand} {ts : Array TypeId} {t tr e : TypeId} {A B D : Option Addr} {l cl dl cd n n' c c' k s s' : Nat} {T T' : TypeId} {xs ys : List Value} (i j : Nat) (sz : Nat) (ho : o.op = .call { callee := .value (.func g), args := #[x, y], argTypes := ts })
    (hf : P.funcs[g]? = some fn) (hname : (fn.name == "runtime.NumGoroutine") = false) (hb : fn.body.isNone = true) (hn : Extern.findNext fn = none) (he : Extern.find fn = some (Extern.SlicesOverlaps.overlaps #[t, t] #[tr])) (ht : P.underlying t = some (.slice e))
    (hs : (P.info? e).map (fun i => i.size) = some sz) (hx : ev m x = some (.slice A l cl)) (hy : ev m y = some (.slice D dl cd)) (hi : L[i]? = some (own A n c T s xs)) (hj : L[j]? = some (own B n' c' T' s' ys)) (hne : i ≠ j) (hD : D = B.map (·.add k)) (hxs : 0 < xs.length) (hys : 0 < ys.length) :
    Eff P m L o (fun _ : Unit => .bool false) (fun _ => L) (fun _ => True) := fun E a w f st => by
  obtain ⟨info, hinfo, hsz⟩ := Option.map_eq_some_iff.1 hs
  have hA := Ent.own i hi _ st.heap 0 (xs[0]'hxs) (List.getElem?_eq_getElem hxs)
  have hB := Ent.own j hj _ st.heap 0 (ys[0]'hys) (List.getElem?_eq_getElem hys)
  obtain ⟨a1, rfl, _⟩ := hA
  obtain ⟨b1, rfl, _⟩ := hB
  have hap := own_apart hi hj hne st.heap rfl rfl
  obtain ⟨h1', hle1, ⟨_, _, _, hd1⟩, _⟩ := Sats.upd hi st.heap
  obtain ⟨h2', hle2, ⟨_, _, _, hd2⟩, _⟩ := Sats.upd hj st.heap
  rcases hd1 with ⟨e1, _⟩ | ⟨g1, r1, e1, hg1, _⟩
  · cases e1
  rcases hd2 with ⟨e2, _⟩ | ⟨g2, r2, e2, hg2, _⟩
  · cases e2
  cases e1; cases e2
  have hw1 : w.heap[g1]? = some (.cells (xs ++ r1).toArray T (0, 0)) := hle1 g1 _ hg1
  have hw2 : w.heap[g2]? = some (.cells (ys ++ r2).toArray T' (0, 0)) := hle2 g2 _ hg2
  have hDa : D = some ⟨g2, k, none⟩ := by rw [hD]; show some ((⟨g2, 0, none⟩ : Addr).add k) = _; rw [addr_mk, Nat.zero_add]
  have hz : ∀ w, (Go.sizeOf e).run P w = .ok sz w := fun w => by simp [sizeOf, typeInfo, hinfo, hsz]
  have hr := Lib.run_overlaps_apart (P := P) w t tr e ht sz hz ⟨g1, 0, none⟩ ⟨g2, k, none⟩ l cl dl cd hap T T' (xs ++ r1).toArray.size (ys ++ r2).toArray.size (by simp only [World.shape?, hw1]) (by simp only [World.shape?, hw2]) (by simp only [List.size_toArray, List.length_append]; omega) (by simp [World.frozen?, hw1]) (by simp [World.frozen?, hw1])
  have hc := run_callFunc_extern (P := P) hf hname hb hn he #[.slice (some ⟨g1, 0, none⟩) l cl, .slice (some ⟨g2, k, none⟩) dl cd] w
  rw [hr] at hc
  refine .inl ⟨(), w, trivial, st, .inl ?_⟩
  have hx' := f _ _ hx
  have hy' := f _ _ hy
  rw [hDa] at hy'
  have hev : #[x, y].map a.eval = #[.slice (some ⟨g1, 0, none⟩) l cl, .slice (some ⟨g2, k, none⟩) dl cd] := by simp [hx', hy']
  simp only [execOp, ho, resolve, Act.eval, hev, Deferred.ofValue, invoke, Sem.run_bind, Sem.run_pure, Result.andThen_ok, Array.empty_append, Array.append_empty]
  exact hc
end
theorem RdL.left {A : Option Addr} {xs ys : List Value} {h : Hp} (r : RdL A (xs ++ ys) h) : RdL A xs h := fun k v e => r k v (by
  rw [List.getElem?_append_left (List.getElem?_eq_some_iff.1 e).1]; exact e)
theorem Ent.left {L : List Ch} {A : Option Addr} {xs ys : List Value} (e : Ent L (RdL A (xs ++ ys))) : Ent L (RdL A xs) := fun h s => RdL.left (e h s)
theorem Ent.cap {L : List Ch} (i : Nat) {A : Option Addr} {n cap s : Nat} {t : TypeId} {xs : List Value} (e : L[i]? = some (Eng.own A n cap t s xs)) : Ent L (fun _ => n ≤ cap) :=
  Ent.at i e (fun h o => o.2.1) (fun _ _ _ h => h)
/-! ### the spare room of a row -/
theorem own_spare {A : Option Addr} {n c s : Nat} {T : TypeId} {xs : List Value} {h : Hp} (o : own A n c T s xs h) : ∃ ys, (xs ++ ys).length = c * s ∧ own A n c T s (xs ++ ys) h := by
  obtain ⟨h1, h2, h3, h4⟩ := o
  rcases h4 with ⟨rfl, rfl, rfl⟩ | ⟨b, rest, e, hb, hl⟩
  · exact ⟨[], by simp, h1, h2, h3, .inl ⟨rfl, rfl, rfl⟩⟩
  · exact ⟨rest, hl, by rw [List.length_append]; omega, h2, h3, .inr ⟨b, [], e, by simpa using hb, by simpa using hl⟩⟩
theorem own_pre {A : Option Addr} {n n' c s : Nat} {T : TypeId} {xs ys : List Value} {h : Hp} (o : own A n c T s (xs ++ ys) h) (hn : n' * s ≤ xs.length) (hc : n' ≤ c) : own A n' c T s xs h := by
  obtain ⟨h1, h2, h3, h4⟩ := o
  rcases h4 with ⟨e1, e2, e3⟩ | ⟨b, rest, e, hb, hl⟩
  · obtain ⟨rfl, rfl⟩ := List.append_eq_nil_iff.1 e3
    exact ⟨hn, hc, h3, .inl ⟨e1, e2, rfl⟩⟩
  · exact ⟨hn, hc, h3, .inr ⟨b, ys ++ rest, e, by rw [← List.append_assoc]; exact hb, by rw [← List.append_assoc]; exact hl⟩⟩
theorem Pk.spare {E : World} {N : Nat} {M : List (Nat × Value)} {L : List Ch} {X : Act → World → Prop} {A : Option Addr} {n c s : Nat} {T : TypeId} {xs : List Value}
    (k : ∀ ys, (xs ++ ys).length = c * s → Pk E N M (own A n c T s (xs ++ ys) :: L) X) : Pk E N M (own A n c T s xs :: L) X := fun a w f st => by
  obtain ⟨h1, h2, x, y, z, p, q⟩ := st.heap
  obtain ⟨ys, e, o⟩ := own_spare p
  exact k ys e a w f ⟨st.os, st.tape, st.output, h1, h2, x, y, z, o, q⟩
theorem Ent.drop {L : List Ch} {A : Option Addr} {c k s : Nat} {xs : List Value} (e : Ent L (RdL A xs)) (h : k < c) : Ent L (RdL (subA A c k s) (xs.drop (k * s))) := fun hh st j v hv => by
  rw [List.getElem?_drop] at hv
  obtain ⟨a, rfl, hc⟩ := e hh st (k * s + j) v hv
  refine ⟨a.add (k * s), by rw [subA_of h]; rfl, ?_⟩
  rw [Addr.add_add]; exact hc
theorem splice_mid {p q r v : List Value} (h : q.length = v.length) : splice (p ++ q ++ r) p.length v = p ++ v ++ r := by
  have e1 : (p ++ q ++ r).take p.length = p := by rw [List.append_assoc, List.take_left]
  have e2 : (p ++ q ++ r).drop (p.length + v.length) = r := by rw [← h, ← List.length_append, List.drop_left]
  rw [splice, e1, e2]
theorem splice_end {p q v : List Value} (h : q.length = v.length) : splice (p ++ q) p.length v = p ++ v := by
  have := splice_mid (p := p) (q := q) (r := []) h
  simpa using this
theorem insert_grow' {p q u zs : List Value} (hz : zs.length = q.length + u.length) : splice (splice (p ++ zs) p.length u) (p.length + u.length) q = p ++ u ++ q := by
  have e : p ++ zs = p ++ zs.take u.length ++ zs.drop u.length := by rw [List.append_assoc, List.take_append_drop]
  rw [e, splice_mid (by simp; omega), ← List.length_append, splice_end (by simp; omega)]
theorem insert_room' {p q u ys : List Value} (hy : u.length ≤ ys.length) : splice (splice (p ++ q ++ ys) (p.length + u.length) q) p.length u = p ++ u ++ q ++ ys.drop u.length := by
  -- the middle, parted anew
  obtain ⟨m1, m2, hm, hm1, hm2⟩ : ∃ m1 m2, q ++ ys = m1 ++ m2 ++ ys.drop u.length ∧ m1.length = u.length ∧ m2.length = q.length := by
    refine ⟨(q ++ ys.take u.length).take u.length, (q ++ ys.take u.length).drop u.length, ?_, by simp; omega, by simp; omega⟩
    rw [List.take_append_drop, List.append_assoc, List.take_append_drop]
  have e : p ++ q ++ ys = (p ++ m1) ++ m2 ++ ys.drop u.length := by rw [List.append_assoc, hm]; simp only [List.append_assoc]
  rw [e, ← hm1, ← List.length_append, splice_mid hm2]
  have e2 : p ++ m1 ++ q ++ ys.drop m1.length = p ++ m1 ++ (q ++ ys.drop m1.length) := by simp only [List.append_assoc]
  rw [e2, splice_mid hm1]
  simp only [List.append_assoc]
theorem insert_grow {xs u zs : List Value} {a b : Nat} (ha : a ≤ xs.length) (hu : u.length = b) (hz : zs.length = xs.length - a + b) : splice (splice (xs.take a ++ zs) a u) (a + b) (xs.drop a) = xs.take a ++ u ++ xs.drop a := by
  have h1 : (xs.take a).length = a := by simp; omega
  have := insert_grow' (p := xs.take a) (q := xs.drop a) (u := u) (zs := zs) (by simp; omega)
  rw [h1, hu] at this; exact this
theorem insert_room {xs u ys : List Value} {a b : Nat} (ha : a ≤ xs.length) (hu : u.length = b) (hy : b ≤ ys.length) : splice (splice (xs ++ ys) (a + b) (xs.drop a)) a u = xs.take a ++ u ++ xs.drop a ++ ys.drop b := by
  have h1 : (xs.take a).length = a := by simp; omega
  have := insert_room' (p := xs.take a) (q := xs.drop a) (u := u) (ys := ys) (by omega)
  rw [h1, hu, List.take_append_drop] at this; exact this
/-- one field is written over -/
theorem flat_splice {α : Type} {enc : α → List Value} {s : Nat} (hs : ∀ x, (enc x).length = s) (d : α) : ∀ {l : List α} {k j : Nat} {ys : List Value} {x : α}, k < l.length → j + ys.length ≤ s → enc x = splice (enc (l.getD k d)) j ys → splice (l.flatMap enc) (k * s + j) ys = (l.set k x).flatMap enc
  | [], k, _, _, _, h, _, _ => by simp at h
  | y :: r, 0, j, ys, x, _, hj, hx => by
    simp only [List.flatMap_cons, List.set_cons_zero, Nat.zero_mul, Nat.zero_add]
    have := hs y
    rw [splice_append (by omega), hx]
    rfl
  | y :: r, k + 1, j, ys, x, h, hj, hx => by
    have ih := flat_splice hs d (l := r) (k := k) (j := j) (ys := ys) (x := x) (by simpa using h) hj (by simpa using hx)
    have hy := hs y
    simp only [List.flatMap_cons, List.set_cons_succ]
    rw [← ih]
    have e : (k + 1) * s + j = (enc y).length + (k * s + j) := by rw [Nat.add_mul, Nat.one_mul, hy]; omega
    rw [e, splice, splice, List.take_append, List.take_of_length_le (by omega), List.drop_append, List.drop_eq_nil_of_le (by omega)]
    have e2 : (enc y).length + (k * s + j) - (enc y).length = k * s + j := by omega
    have e3 : (enc y).length + (k * s + j) + ys.length - (enc y).length = k * s + j + ys.length := by omega
    rw [e2, e3, List.nil_append]
    simp only [List.append_assoc]
theorem flat_take {α : Type} {enc : α → List Value} {s : Nat} (hs : ∀ x, (enc x).length = s) : ∀ (l : List α) (i : Nat), i ≤ l.length → (l.flatMap enc).take (i * s) = (l.take i).flatMap enc ∧ (l.flatMap enc).drop (i * s) = (l.drop i).flatMap enc
  | l, 0, _ => by simp
  | [], i + 1, h => by simp at h
  | y :: r, i + 1, h => by
    have ih := flat_take hs r i (by simpa using h)
    have hy := hs y
    have e : (i + 1) * s = (enc y).length + i * s := by rw [Nat.add_mul, Nat.one_mul, hy]; omega
    simp only [List.flatMap_cons, List.take_succ_cons, List.drop_succ_cons]
    rw [e]
    refine ⟨?_, ?_⟩
    · rw [List.take_append, List.take_of_length_le (by omega), show (enc y).length + i * s - (enc y).length = i * s by omega, ih.1]
    · rw [List.drop_append, List.drop_eq_nil_of_le (by omega), show (enc y).length + i * s - (enc y).length = i * s by omega, ih.2, List.nil_append]
theorem Sats.cat_ins {α : Type} {f : α → Ch} {l : List α} {L : List Ch} {h : Hp} {y : α} (i : Nat) (s : Sats (f y :: cat (l.map f) :: L) h) : Sats (cat ((l.take i ++ [y] ++ l.drop i).map f) :: L) h := by
  have s1 : Sats (f y :: ((l.take i).map f ++ ((l.drop i).map f ++ L))) h := Sats.under (fun _ q => by
    have := Sats.cat_open q
    rw [← List.append_assoc, ← List.map_append, List.take_append_drop]; exact this) s
  have s2 := Sats.move s1
  refine Sats.cat_shut ?_
  have e : (l.take i ++ [y] ++ l.drop i).map f ++ L = (l.take i).map f ++ f y :: ((l.drop i).map f ++ L) := by simp
  rw [e]; exact s2
theorem Sats.cat_at {α : Type} {f : α → Ch} {l : List α} {L : List Ch} {h : Hp} (i : Nat) (d : α) (hi : i < l.length) (s : Sats (cat (l.map f) :: L) h) : Sats (f (l.getD i d) :: cat ((l.eraseIdx i).map f) :: L) h :=
  Sats.cat_pull i (by simp [hi]) s
theorem Sats.cat_put {α : Type} {f : α → Ch} {l : List α} {L : List Ch} {h : Hp} (i : Nat) {y : α} (hi : i < l.length) (s : Sats (f y :: cat ((l.eraseIdx i).map f) :: L) h) : Sats (cat ((l.set i y).map f) :: L) h :=
  Sats.cat_push i (x := l[i]) (by simp [hi]) s
end Go.Proofs.Eng
