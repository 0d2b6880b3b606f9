/- FixKeeps, the walk. -/
import Derived.Test.YtdpckendkklfdaaL17P
set_option linter.unusedVariables false
set_option linter.unusedSimpArgs false
set_option maxRecDepth 100000
namespace Go.Proofs.Ytdpckendkklfdaa
open Go.RowKit Go.Proofs.Eng
def sp : ByteArray := ⟨#[115, 112, 97, 114, 101]⟩
def dP : ByteArray × Int := (emp, 0)
theorem take_succ_map {α β : Type} (f : α → β) (d : α) {l : List α} {k : Nat} (h : k < l.length) : (l.take (k + 1)).map f = (l.take k).map f ++ [f (l.getD k d)] := by
  rw [List.take_succ_eq_append_getElem h, List.map_append]; simp [h]
theorem brought_key_size {masks : List Int} {read turn : Int} {picks : List Int} {v : Av} (h : v ∈ broughtL masks read turn picks) : v.key.size = 1 := by
  obtain ⟨i, hi⟩ := List.mem_iff_getElem?.1 h
  obtain ⟨_, h2⟩ := broughtL_get hi
  rw [h2]
  obtain ⟨z, _, hz⟩ := keysB_mem (getD_mem emp (Nat.mod_lt _ (keysB_pos read)) : readKey read turn i ∈ keysB read)
  rw [readKey, hz]; exact keyB_size z
def spareCh (v : Ver) : Ch := own v.A (v.a.keys.length + 1) v.c 9 1 (v.a.keys.map .string ++ [.string sp])
def gS (vs : List Ver) (i j : Nat) : Ch := if j < i then spareCh (vs.getD j dV) else keysCh (vs.getD j dV)
theorem gS_start (vs : List Ver) : Eng.cat (vs.map keysCh) = Eng.cat ((List.range vs.length).map (gS vs 0)) := by
  rw [num_list vs dV]
  exact num_congr fun j hj => by simp [gS]
theorem gS_new (vs : List Ver) (i : Nat) : gS vs i i = keysCh (vs.getD i dV) := by simp [gS]
theorem gS_old {vs : List Ver} {i j : Nat} (h : j < i) : gS vs i j = spareCh (vs.getD j dV) := by simp [gS, h]
theorem gS_next {vs : List Ver} {n i : Nat} (v : Ver) : ∀ j, j < n → j ≠ i → gS vs i j = gS (vs.set i v) (i + 1) j := fun j _ h => by
  have h1 : j < i ↔ j < i + 1 := by omega
  have h2 : (vs.set i v).getD j dV = vs.getD j dV := by
    simp only [List.getD_eq_getElem?_getD, List.getElem?_set]
    rw [if_neg (fun e => h e.symm)]
  simp only [gS, h1, h2]
theorem gS_set {vs : List Ver} {i : Nat} (v : Ver) (h : i < vs.length) : gS (vs.set i v) (i + 1) i = spareCh v := by
  simp [gS, h]
/-- one field is written over -/
theorem flat_splice {α : Type} {enc : α → List Value} {s : Nat} (hs : ∀ x, (enc x).length = s) (d : α) : ∀ {l : List α} {k j : Nat} {ys : List Value} {x : α}, k < l.length → j + ys.length ≤ s → enc x = splice (enc (l.getD k d)) j ys → splice (l.flatMap enc) (k * s + j) ys = (l.set k x).flatMap enc
  | [], k, _, _, _, h, _, _ => by simp at h
  | y :: r, 0, j, ys, x, _, hj, hx => by
    simp only [List.flatMap_cons, List.set_cons_zero, Nat.zero_mul, Nat.zero_add]
    have := hs y
    rw [splice_append (by omega), hx]
    rfl
  | y :: r, k + 1, j, ys, x, h, hj, hx => by
    have ih := flat_splice hs d (l := r) (k := k) (j := j) (ys := ys) (x := x) (by simpa using h) hj (by simpa using hx)
    have hy := hs y
    simp only [List.flatMap_cons, List.set_cons_succ]
    rw [← ih]
    have e : (k + 1) * s + j = (enc y).length + (k * s + j) := by rw [Nat.add_mul, Nat.one_mul, hy]; omega
    rw [e, splice, splice, List.take_append, List.take_of_length_le (by omega), List.drop_append, List.drop_eq_nil_of_le (by omega)]
    have e2 : (enc y).length + (k * s + j) - (enc y).length = k * s + j := by omega
    have e3 : (enc y).length + (k * s + j) + ys.length - (enc y).length = k * s + j + ys.length := by omega
    rw [e2, e3, List.nil_append]
    simp only [List.append_assoc]
theorem RdL.left {A : Option Addr} {xs ys : List Value} {h : Hp} (r : RdL A (xs ++ ys) h) : RdL A xs h := fun k v e => r k v (by
  rw [List.getElem?_append_left (List.getElem?_eq_some_iff.1 e).1]; exact e)
theorem Ent.left {L : List Ch} {A : Option Addr} {xs ys : List Value} (e : Ent L (RdL A (xs ++ ys))) : Ent L (RdL A xs) := fun h s => RdL.left (e h s)
theorem Ent.cap {L : List Ch} (i : Nat) {A : Option Addr} {n cap s : Nat} {t : TypeId} {xs : List Value} (e : L[i]? = some (own A n cap t s xs)) : Ent L (fun _ => n ≤ cap) :=
  Ent.at i e (fun h o => o.2.1) (fun _ _ _ h => h)
theorem verIn_pre {L : List Ch} {A : Option Addr} {n c : Nat} {t : TypeId} {vs : List Ver} {ex : List Value} (i j : Nat) (h1 : L[i]? = some (own A n c t 4 ([] ++ vs.flatMap Ver.cells ++ ex))) (h2 : L[j]? = some (cat (vs.map keysCh))) (hl : vs.length ≤ 1099511627776) (hk : ∀ v ∈ avs vs, v.keys.length ≤ 1099511627776) : VerIn L A vs := by
  refine ⟨Ent.left (Ent.own i h1), fun v hv => ?_, hl, fun v hv => hk _ (List.mem_map.2 ⟨v, hv, rfl⟩)⟩
  obtain ⟨k, hk⟩ := List.mem_iff_getElem?.1 hv
  exact Ent.cat (f := keysCh) j h2 hk (fun h o => own_rd o) (fun h h' le r => r.mono le)
theorem verIn_spare {L : List Ch} {A : Option Addr} {n n' c : Nat} {t : TypeId} {vs : List Ver} {ex : List Value} (i j : Nat) (h1 : L[i]? = some (own A n c t 4 ([] ++ vs.flatMap Ver.cells ++ ex))) (h2 : L[j]? = some (cat ((List.range n').map (gS vs n')))) (hn : vs.length = n') (hl : vs.length ≤ 1099511627776) (hk : ∀ v ∈ avs vs, v.keys.length ≤ 1099511627776) : VerIn L A vs := by
  refine ⟨Ent.left (Ent.own i h1), fun v hv => ?_, hl, fun v hv => hk _ (List.mem_map.2 ⟨v, hv, rfl⟩)⟩
  obtain ⟨k, hk⟩ := List.mem_iff_getElem?.1 hv
  have hkl := (List.getElem?_eq_some_iff.1 hk).1
  have hg : vs.getD k dV = v := by simp [hk]
  exact Ent.num j h2 (j := k) (by omega) (fun h o => by rw [gS_old (by omega), hg] at o; exact RdL.left (own_rd o)) (fun h h' le r => r.mono le)
def interl : List Ver → List Ver → List Ver
  | a :: r, b :: q => a :: b :: interl r q
  | _, _ => []
theorem Sats.interl : ∀ (xs ys : List Ver) {L : List Ch} {h : Hp}, xs.length = ys.length → Sats (Eng.cat (xs.map keysCh) :: Eng.cat (ys.map keysCh) :: L) h → Sats (Eng.cat ((interl xs ys).map keysCh) :: L) h
  | [], [], _, _, _, s => s.tail
  | a :: r, b :: q, L, h, e, s => by
    have s1 : Sats (keysCh a :: (r.map keysCh ++ Eng.cat ((b :: q).map keysCh) :: L)) h := Sats.cat_open (A := (a :: r).map keysCh) s
    have s2 : Sats (keysCh a :: Eng.cat (r.map keysCh) :: Eng.cat ((b :: q).map keysCh) :: L) h := Sats.under (fun _ s => Sats.cat_shut s) s1
    have s3 : Sats (keysCh a :: keysCh b :: Eng.cat (q.map keysCh) :: Eng.cat (r.map keysCh) :: L) h := Sats.under (fun _ s => by
      have t1 := Sats.swap s
      have t2 : Sats (keysCh b :: (q.map keysCh ++ Eng.cat (r.map keysCh) :: L)) _ := Sats.cat_open (A := (b :: q).map keysCh) t1
      exact Sats.under (fun _ s => Sats.cat_shut s) t2) s2
    have s4 : Sats (keysCh a :: keysCh b :: Eng.cat ((Go.Proofs.Ytdpckendkklfdaa.interl r q).map keysCh) :: L) h := Sats.under (fun _ s => Sats.under (fun _ s => Sats.interl r q (by simpa using e) (Sats.swap s)) s) s3
    have s5 : Sats (keysCh a :: keysCh b :: ((Go.Proofs.Ytdpckendkklfdaa.interl r q).map keysCh ++ L)) h := Sats.under (fun _ s => Sats.under (fun _ s => Sats.cat_open s) s) s4
    exact Sats.cat_shut (A := (Go.Proofs.Ytdpckendkklfdaa.interl (a :: r) (b :: q)).map keysCh) s5
  | [], _ :: _, _, _, e, _ => by simp at e
  | _ :: _, [], _, _, e, _ => by simp at e
def rowOf (v : Ver) : Row := ⟨v.A, v.a.keys.length, v.c⟩
theorem keys_rows (vs : List Ver) {L : List Ch} {h : Hp} (s : Sats (Eng.cat (vs.map keysCh) :: L) h) : Sats (Eng.cat ((vs.map rowOf).map (rowAny 9 1)) :: L) h := by
  induction vs generalizing h with
  | nil => exact s
  | cons v r ih =>
    have s1 : Sats (keysCh v :: (r.map keysCh ++ L)) h := Sats.cat_open (A := (v :: r).map keysCh) s
    have s2 : Sats (rowAny 9 1 (rowOf v) :: (r.map keysCh ++ L)) h := Sats.head (fun _ o => ⟨_, by simp [rowOf], o⟩) s1
    have s3 : Sats (rowAny 9 1 (rowOf v) :: (((r.map rowOf).map (rowAny 9 1)) ++ L)) h := Sats.under (fun _ s => Sats.cat_open (ih (Sats.cat_shut s))) s2
    exact Sats.cat_shut (A := ((v :: r).map rowOf).map (rowAny 9 1)) s3
theorem interl_snoc : ∀ (xs ys : List Ver) (k : Nat), k < xs.length → xs.length = ys.length → interl (xs.take (k + 1)) (ys.take (k + 1)) = interl (xs.take k) (ys.take k) ++ [xs.getD k dV, ys.getD k dV]
  | a :: r, b :: q, 0, _, _ => by simp [interl]
  | a :: r, b :: q, k + 1, h, e => by
    have := interl_snoc r q k (by simpa using h) (by simpa using e)
    simp only [List.take_succ_cons, interl, this]
    simp
  | [], _, _, h, _ => by simp at h
  | _ :: _, [], _, _, e => by simp at e
theorem interl_len : ∀ (xs ys : List Ver), xs.length = ys.length → (interl xs ys).length = 2 * xs.length
  | [], [], _ => rfl
  | a :: r, b :: q, e => by simp [interl, interl_len r q (by simpa using e)]; omega
  | [], _ :: _, e => by simp at e
  | _ :: _, [], e => by simp at e
theorem interl_mem : ∀ {xs ys : List Ver} {v : Ver}, v ∈ interl xs ys → v ∈ xs ∨ v ∈ ys
  | [], _, _, h => by simp [interl] at h
  | _ :: _, [], _, h => by simp [interl] at h
  | a :: r, b :: q, v, h => by
    simp only [interl, List.mem_cons] at h
    rcases h with rfl | rfl | h
    · simp
    · simp
    · rcases interl_mem h with h | h <;> simp [h]

end Go.Proofs.Ytdpckendkklfdaa
