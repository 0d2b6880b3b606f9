/- FixKeeps, the plain law: what brought makes is formed; what is wanted is found. -/
import Derived.Test.YtdpckendkklfdaaL17D
set_option linter.unusedVariables false
set_option linter.unusedSimpArgs false
set_option maxRecDepth 100000
namespace Go.Proofs.Ytdpckendkklfdaa
open Go.RowKit Go.Proofs.Eng
theorem formedGo_of : ∀ (l pre : List Av), (∀ v ∈ l, mayB v = true) → (∀ (i j : Nat) (u v : Av), (pre ++ l)[i]? = some u → (pre ++ l)[j]? = some v → u.key = v.key → i = j) → (∀ u ∈ pre ++ l, ∀ v ∈ pre ++ l, u.id = v.id → u.keys = v.keys) → formedGo pre l = true
  | [], _, _, _, _ => rfl
  | v :: r, pre, h1, h2, h3 => by
    rw [formedGo, h1 v (by simp), formedGo_of r (pre ++ [v]) (fun u hu => h1 u (by simp [hu])) (by simpa using h2) (by simpa using h3)]
    have hn : memB (pre.map (·.key)) v.key = false := memB_not fun hm => by
      obtain ⟨u, hu, he⟩ := List.mem_map.1 hm
      obtain ⟨i, hi⟩ := List.mem_iff_getElem?.1 hu
      have hil := (List.getElem?_eq_some_iff.1 hi).1
      have := h2 i pre.length u v (by rw [List.getElem?_append_left hil]; exact hi) (by simp) he
      omega
    rw [hn]
    cases hf : pre.find? (fun u => decide (u.id = v.id)) with
    | none => simp
    | some u =>
      have hu := List.find?_some hf
      have := h3 u (List.mem_append_left _ (List.mem_of_find?_eq_some hf)) v (by simp) (by simpa using hu)
      simp [this]
theorem keyB_lt : ∀ i, i < 8 → ∀ j, j < 8 → i < j → slt (keyB i) (keyB j) = true := by decide
theorem riseB_pair : ∀ {l : List ByteArray}, l.Pairwise (fun a b => slt a b = true) → riseB l = true
  | [], _ => rfl
  | [a], _ => rfl
  | a :: b :: r, h => by
    rw [riseB]
    have h' := List.pairwise_cons.1 h
    rw [h'.1 b (by simp), riseB_pair h'.2]; rfl
theorem keysB_pair (mask : Int) : (keysB mask).Pairwise (fun a b => slt a b = true) := by
  unfold keysB
  split
  · simp
  · have h1 : ((List.range 8).filter (bitB mask)).Pairwise (· < ·) := List.pairwise_lt_range.filter _
    rw [keysK, List.pairwise_map]
    refine h1.imp_of_mem fun {a b} ha hb hab => ?_
    have ha' : a < 8 := by simpa using (List.mem_filter.1 ha).1
    have hb' : b < 8 := by simpa using (List.mem_filter.1 hb).1
    exact keyB_lt a ha' b hb' hab
theorem keysB_rise (mask : Int) : riseB (keysB mask) = true := riseB_pair (keysB_pair mask)
theorem keysB_inj (mask : Int) {i j : Nat} (hi : i < (keysB mask).length) (hj : j < (keysB mask).length) (h : (keysB mask).getD i emp = (keysB mask).getD j emp) : i = j := by
  have hr := (riseB_iff _).1 (keysB_rise mask)
  rcases Nat.lt_trichotomy i j with hlt | he | hlt
  · have := hr.lt hlt hj; rw [h, slt_irrefl] at this; cases this
  · exact he
  · have := hr.lt hlt hi; rw [h, slt_irrefl] at this; cases this
theorem readKey_inj {read turn : Int} {i j : Nat} (hi : i < (keysB read).length) (hj : j < (keysB read).length) (h : readKey read turn i = readKey read turn j) : i = j := by
  have hn := keysB_pos read
  have h1 := keysB_inj read (Nat.mod_lt _ hn) (Nat.mod_lt _ hn) h
  have key : ∀ a b r n : Nat, a < n → b < n → (a + r) % n = (b + r) % n → a ≤ b → a = b := fun a b r n ha hb e hab => by
    have := Nat.sub_mod_eq_zero_of_mod_eq e.symm
    rw [show b + r - (a + r) = b - a by omega, Nat.mod_eq_of_lt (by omega)] at this
    omega
  rcases Nat.le_total i j with hij | hij
  · exact key _ _ _ _ hi hj h1 hij
  · exact (key _ _ _ _ hj hi h1.symm hij).symm
/-- one of those that a read may bring -/
inductive Made (masks : List Int) (v : Av) : Prop where
  | bot (k : ByteArray) (h : v = botAv k)
  | made (w : Nat) (k : ByteArray) (hw : w < masks.length) (hk : k ∈ keysB (masks.getD w 0)) (h : v = madeAv masks w k)
theorem pickB_made (masks : List Int) (read turn : Int) (picks : List Int) (i : Nat) : Made masks (pickB masks read turn picks i) ∧ (pickB masks read turn picks i).key = readKey read turn i := by
  unfold pickB
  have hpos : 0 < (someK masks (readKey read turn i) masks.length).length := by simp [someK]
  have hr := restN_le (pickN picks i) ((someK masks (readKey read turn i) masks.length).length - 1)
  have hm := getD_mem dAv (show restN (pickN picks i) ((someK masks (readKey read turn i) masks.length).length - 1) < (someK masks (readKey read turn i) masks.length).length by omega)
  revert hm
  generalize (someK masks (readKey read turn i) masks.length).getD (restN (pickN picks i) ((someK masks (readKey read turn i) masks.length).length - 1)) dAv = v
  intro hm
  simp only [someK, List.mem_cons, List.mem_map, List.mem_filter, List.mem_range] at hm
  rcases hm with rfl | ⟨w, ⟨h1, h2⟩, rfl⟩
  · exact ⟨.bot _ rfl, rfl⟩
  · exact ⟨.made w _ h1 (memB_iff.1 h2) rfl, rfl⟩
theorem broughtL_made {masks : List Int} {read turn : Int} {picks : List Int} {v : Av} (h : v ∈ broughtL masks read turn picks) : Made masks v := by
  simp only [broughtL, broughtK, List.mem_map] at h
  obtain ⟨i, _, rfl⟩ := h
  exact (pickB_made masks read turn picks i).1
theorem Made.may {masks : List Int} {v : Av} (h : Made masks v) : mayB v = true := by
  rcases h with ⟨k, rfl⟩ | ⟨w, k, hw, hk, rfl⟩
  · rfl
  · have h1 : ¬ (madeAv masks w k).id = 0 := by simp only [madeAv]; omega
    have h2 : 65536 ≤ (madeAv masks w k).id := by simp only [madeAv]; omega
    rw [mayB, if_neg h1, decide_eq_true h2]
    have h3 : riseB (madeAv masks w k).keys = true := keysB_rise _
    have h4 : (madeAv masks w k).keys.length ≤ 1024 := by have := keysB_len (masks.getD w 0); simp only [madeAv]; omega
    have h5 : memB (madeAv masks w k).keys (madeAv masks w k).key = true := memB_iff.2 hk
    rw [h3, decide_eq_true h4, h5]; rfl
theorem Made.same {masks : List Int} {u v : Av} (h : Made masks u) (h' : Made masks v) (e : u.id = v.id) : u.keys = v.keys := by
  rcases h with ⟨k, rfl⟩ | ⟨w, k, hw, hk, rfl⟩ <;> rcases h' with ⟨k', rfl⟩ | ⟨w', k', hw', hk', rfl⟩
  · rfl
  · simp only [botAv, madeAv] at e; omega
  · simp only [botAv, madeAv] at e; omega
  · simp only [madeAv] at e
    have : w = w' := by omega
    subst this; rfl
theorem Made.nat {masks : List Int} {v : Av} (h : Made masks v) : 0 ≤ v.id := by
  rcases h with ⟨k, rfl⟩ | ⟨w, k, hw, hk, rfl⟩
  · exact Int.le_refl _
  · simp only [madeAv]; omega
theorem Made.klen {masks : List Int} {v : Av} (h : Made masks v) : v.keys.length ≤ 8 := by
  rcases h with ⟨k, rfl⟩ | ⟨w, k, hw, hk, rfl⟩
  · simp [botAv]
  · exact keysB_len _
theorem broughtL_len (masks : List Int) (read turn : Int) (picks : List Int) : (broughtL masks read turn picks).length = (keysB read).length := by simp [broughtL, broughtK]
theorem broughtL_get {masks : List Int} {read turn : Int} {picks : List Int} {i : Nat} {v : Av} (h : (broughtL masks read turn picks)[i]? = some v) : i < (keysB read).length ∧ v.key = readKey read turn i := by
  obtain ⟨h1, h2⟩ := List.getElem?_eq_some_iff.1 h
  rw [broughtL_len] at h1
  refine ⟨h1, ?_⟩
  have : v = pickB masks read turn picks i := by rw [← h2]; simp [broughtL, broughtK]
  rw [this]; exact (pickB_made _ _ _ _ _).2
theorem broughtL_formed (masks : List Int) (read turn : Int) (picks : List Int) : formedB (broughtL masks read turn picks) = true := by
  have h1 := keysB_pos read
  have h2 := keysB_len read
  have h3 : formedGo [] (broughtL masks read turn picks) = true := by
    refine formedGo_of _ [] (fun v hv => (broughtL_made hv).may) (fun i j u v hu hv e => ?_) (fun u hu v hv e => ?_)
    · rw [List.nil_append] at hu hv
      have g1 := broughtL_get hu
      have g2 := broughtL_get hv
      exact readKey_inj g1.1 g2.1 (by rw [← g1.2, ← g2.2, e])
    · rw [List.nil_append] at hu hv
      exact (broughtL_made hu).same (broughtL_made hv) e
  unfold formedB
  rw [h3, broughtL_len, decide_eq_true (show 1 ≤ (keysB read).length by omega), decide_eq_true (show (keysB read).length ≤ 1024 by omega)]; rfl
theorem grt_mem (l : List Av) (s : ByteArray) : grt l s = 0 ∨ ∃ u ∈ l, grt l s = u.id := by
  induction l with
  | nil => exact .inl rfl
  | cons v r ih =>
    rw [grt]
    split
    · rcases ih with ih | ⟨u, hu, e⟩
      · rw [ih, Int.max_def]
        split
        · exact .inl rfl
        · exact .inr ⟨v, by simp, rfl⟩
      · rw [e, Int.max_def]
        split
        · exact .inr ⟨u, by simp [hu], rfl⟩
        · exact .inr ⟨v, by simp, rfl⟩
    · rcases ih with ih | ⟨u, hu, e⟩
      · exact .inl ih
      · exact .inr ⟨u, by simp [hu], e⟩
def wOf (id : Int) : Nat := (id / 65536 - 1).toNat
theorem wOf_made (w : Nat) : wOf (65536 * ((w : Int) + 1)) = w := by unfold wOf; omega
theorem needsL_mem {masks : List Int} {read turn : Int} {picks : List Int} {p : ByteArray × Int} (h : p ∈ needsL (broughtL masks read turn picks)) :
    (∃ v ∈ broughtL masks read turn picks, v.id < grt (broughtL masks read turn picks) v.key ∧ p = (v.key, grt (broughtL masks read turn picks) v.key)) ∧ ∃ w, w < masks.length ∧ p.2 = 65536 * ((w : Int) + 1) ∧ wOf p.2 = w := by
  rw [needsL, if_pos (broughtL_formed _ _ _ _), List.mem_filterMap] at h
  obtain ⟨v, hv, hf⟩ := h
  unfold needF at hf
  split at hf
  · rename_i hlt
    simp only [Option.some.injEq] at hf
    subst hf
    refine ⟨⟨v, hv, hlt, rfl⟩, ?_⟩
    have h0 := (broughtL_made hv).nat
    rcases grt_mem (broughtL masks read turn picks) v.key with e | ⟨u, hu, e⟩
    · omega
    · rcases broughtL_made hu with ⟨k, rfl⟩ | ⟨w, k, hw, hk, rfl⟩
      · simp only [botAv] at e; omega
      · simp only [madeAv] at e
        exact ⟨w, hw, e, by show wOf (grt _ _) = w; rw [e]; exact wOf_made w⟩
  · cases hf
def gotF (masks : List Int) (p : ByteArray × Int) : Av := madeAv masks (wOf p.2) p.1
def gotL (masks : List Int) (l : List Av) : List Av := (needsL l).map (gotF masks)
theorem mapO_some {f : Av → Option Av} : ∀ {l : List Av}, (∀ v ∈ l, (f v).isSome = true) → (mapO f l).isSome = true
  | [], _ => rfl
  | v :: r, h => by
    obtain ⟨a, ha⟩ := Option.isSome_iff_exists.1 (h v (by simp))
    obtain ⟨b, hb⟩ := Option.isSome_iff_exists.1 (mapO_some (f := f) (l := r) fun u hu => h u (by simp [hu]))
    rw [mapO, ha, hb]; rfl
theorem mapO_mem {f : Av → Option Av} : ∀ {l r : List Av}, mapO f l = some r → ∀ a ∈ r, ∃ v ∈ l, f v = some a
  | [], r, h, a, ha => by simp [mapO] at h; subst h; cases ha
  | v :: l, r, h, a, ha => by
    rw [mapO] at h
    cases h1 : f v <;> rw [h1] at h
    · simp at h
    · cases h2 : mapO f l <;> rw [h2] at h
      · simp at h
      · simp at h; subst h
        rcases List.mem_cons.1 ha with rfl | ha
        · exact ⟨v, by simp, h1⟩
        · obtain ⟨u, hu, e⟩ := mapO_mem h2 a ha
          exact ⟨u, by simp [hu], e⟩
theorem mend_found {masks : List Int} {read turn : Int} {picks : List Int} : (mapO (mendF (broughtL masks read turn picks) (gotL masks (broughtL masks read turn picks))) (broughtL masks read turn picks)).isSome = true := by
  refine mapO_some fun v hv => ?_
  unfold mendF
  split
  · rename_i hlt
    rw [List.find?_isSome]
    have hp : (v.key, grt (broughtL masks read turn picks) v.key) ∈ needsL (broughtL masks read turn picks) := by
      rw [needsL, if_pos (broughtL_formed _ _ _ _), List.mem_filterMap]
      exact ⟨v, hv, by rw [needF, if_pos hlt]⟩
    obtain ⟨_, w, hw, h1, h2⟩ := needsL_mem hp
    refine ⟨gotF masks (v.key, grt (broughtL masks read turn picks) v.key), List.mem_map.2 ⟨_, hp, rfl⟩, ?_⟩
    simp only [gotF, madeAv, h2] at h1 ⊢
    rw [decide_eq_true_eq, h1]
  · rfl
theorem mend_err (masks : List Int) (read turn : Int) (picks : List Int) : mendE (broughtL masks read turn picks) (gotL masks (broughtL masks read turn picks)) = 0 := by
  rw [mendE, if_pos (broughtL_formed _ _ _ _), if_pos mend_found]
theorem mend_len (masks : List Int) (read turn : Int) (picks : List Int) : (mendL (broughtL masks read turn picks) (gotL masks (broughtL masks read turn picks))).length = (keysB read).length := by
  obtain ⟨r, hr⟩ := Option.isSome_iff_exists.1 (mend_found (masks := masks) (read := read) (turn := turn) (picks := picks))
  rw [mendL, if_pos (broughtL_formed _ _ _ _), hr, Option.getD_some, mapO_len hr, broughtL_len]
theorem gotL_klen {masks : List Int} {l : List Av} {v : Av} (h : v ∈ gotL masks l) : v.keys.length ≤ 8 := by
  obtain ⟨p, _, rfl⟩ := List.mem_map.1 h
  exact keysB_len _
theorem mend_klen {masks : List Int} {read turn : Int} {picks : List Int} {v : Av} (h : v ∈ mendL (broughtL masks read turn picks) (gotL masks (broughtL masks read turn picks))) : v.keys.length ≤ 8 := by
  obtain ⟨r, hr⟩ := Option.isSome_iff_exists.1 (mend_found (masks := masks) (read := read) (turn := turn) (picks := picks))
  rw [mendL, if_pos (broughtL_formed _ _ _ _), hr, Option.getD_some] at h
  obtain ⟨u, hu, e⟩ := mapO_mem hr v h
  unfold mendF at e
  split at e
  · exact gotL_klen (List.mem_of_find?_eq_some e)
  · cases e; exact (broughtL_made hu).klen
theorem errN_brought (masks : List Int) (read turn : Int) (picks : List Int) : errN (broughtL masks read turn picks) = 0 := by rw [errN, if_pos (broughtL_formed _ _ _ _)]
theorem needsL_len (l : List Av) : (needsL l).length ≤ l.length := by
  unfold needsL
  split
  · exact List.length_filterMap_le _ _
  · simp
end Go.Proofs.Ytdpckendkklfdaa
