/-
  Layer 4 in plain Lean: what may be may be behind any operation; seals; moves.
-/
import Derived.Test.YtaoagaokocnehaaOp
import Derived.Test.YtaoagaokocnehaaOrdP
namespace Go.Proofs.Ytaoagaokocnehaa
set_option linter.unusedVariables false
set_option linter.unusedSimpArgs false

theorem pairsGo_cons {least last k v : Int} {r : List Int} : pairsGo least last (k :: v :: r) = true ↔ (last < k ∧ k ≤ 255 ∧ least ≤ v ∧ v ≤ 1099511627776) ∧ pairsGo least k r = true := by
  rw [pairsGo]
  by_cases h : k ≤ last ∨ 255 < k ∨ v < least ∨ 1099511627776 < v
  · rw [if_pos h]
    constructor
    · intro e; simp at e
    · rintro ⟨e, _⟩; omega
  · rw [if_neg h]
    constructor
    · intro e; exact ⟨by omega, e⟩
    · rintro ⟨_, e⟩; exact e
theorem pairsGo_weak {least a b : Int} : ∀ {l : List Int}, pairsGo least a l = true → b ≤ a → pairsGo least b l = true
  | k :: v :: r, h, hb => by rw [pairsGo_cons] at h ⊢; exact ⟨by omega, h.2⟩
  | [k], _, _ => by simp [pairsGo]
  | [], _, _ => by simp [pairsGo]
theorem pairs_putR {least key n : Int} : ∀ {l : List Int} {last : Int}, l.length % 2 = 0 → pairsGo least last l = true → last < key → key ≤ 255 → least ≤ n → n ≤ 1099511627776 → pairsGo least last (putR l key n) = true
  | k :: v :: r, last, he, h, h1, h2, h3, h4 => by
    rw [pairsGo_cons] at h
    rw [putR]
    by_cases c : k < key
    · rw [if_pos c, pairsGo_cons]
      exact ⟨h.1, pairs_putR (by simp at he; omega) h.2 c h2 h3 h4⟩
    · rw [if_neg c]
      by_cases d : k = key
      · rw [if_pos d, pairsGo_cons]; exact ⟨by omega, h.2⟩
      · rw [if_neg d, pairsGo_cons, pairsGo_cons]; exact ⟨by omega, by omega, h.2⟩
  | [k], _, he, _, _, _, _, _ => by simp at he
  | [], last, _, _, h1, h2, h3, h4 => by
    rw [putR, pairsGo_cons]
    · exact ⟨by omega, by simp [pairsGo]⟩
    · simp
theorem pairs_delR {least key : Int} : ∀ {l : List Int} {last : Int}, pairsGo least last l = true → pairsGo least last (delR l key) = true
  | k :: v :: r, last, h => by
    rw [pairsGo_cons] at h
    rw [delR]
    by_cases c : k < key
    · rw [if_pos c, pairsGo_cons]; exact ⟨h.1, pairs_delR h.2⟩
    · rw [if_neg c]; exact pairsGo_weak h.2 (by omega)
  | [k], _, h => by simpa [delR] using h
  | [], _, h => by simpa [delR] using h
theorem delR_length (key : Int) : ∀ l : List Int, (delR l key).length % 2 = l.length % 2 ∧ (delR l key).length ≤ l.length
  | k :: v :: r => by
    have ih := delR_length key r
    rw [delR]
    split <;> simp only [List.length_cons] <;> omega
  | [k] => by simp [delR]
  | [] => by simp [delR]
theorem pairs_hasR {least key : Int} : ∀ {l : List Int} {last : Int}, pairsGo least last l = true → foundB l key = true → l.length % 2 = 0 → least ≤ hasI l key ∧ hasI l key ≤ 1099511627776
  | k :: v :: r, last, h, hf, he => by
    rw [pairsGo_cons] at h
    rw [foundB_cons] at hf
    rw [hasI_cons]
    by_cases c : k < key
    · rw [if_pos c] at hf ⊢; exact pairs_hasR h.2 hf (by simp at he; omega)
    · rw [if_neg c] at hf ⊢
      rw [if_pos (by simpa using hf)]; omega
  | [k], _, _, _, he => by simp at he
  | [], _, _, hf, _ => by simp [foundB_nil] at hf
theorem pairsB_iff {l : List Int} {least : Int} : pairsB l least = true ↔ pairsGo least (-1) l = true ∧ l.length % 2 = 0 ∧ l.length ≤ 128 := by
  simp [pairsB]
theorem pairsB_put {l : List Int} {least key n : Int} (h : pairsB l least = true) (hb : putB l key = true) (h1 : 0 ≤ key) (h2 : key ≤ 255) (h3 : least ≤ n) (h4 : n ≤ 1099511627776) : pairsB (putL l key n) least = true := by
  rw [pairsB_iff] at h ⊢
  rw [putL_eq h.2.1 hb]
  refine ⟨pairs_putR h.2.1 h.1 (by omega) h2 h3 h4, putR_even h.2.1, ?_⟩
  rw [putR_length key n l h.2.1]
  split
  · exact h.2.2
  · rename_i hf
    unfold putB at hb
    simp [hf] at hb
    have := h.2.1
    omega
theorem pairsB_del {l : List Int} {least key : Int} (h : pairsB l least = true) : pairsB (delL l key) least = true := by
  rw [pairsB_iff] at h ⊢
  rw [delL_eq h.2.1]
  have := delR_length key l
  exact ⟨pairs_delR h.1, by omega, by omega⟩
theorem pairsB_has {l : List Int} {least key : Int} (h : pairsB l least = true) : hasI l key = -1 ∨ (least ≤ hasI l key ∧ hasI l key ≤ 1099511627776) := by
  rw [pairsB_iff] at h
  cases hf : foundB l key
  · exact .inl (has_unfound hf)
  · exact .inr (pairs_hasR h.1 hf h.2.1)

theorem withinB_iff {l : List Int} : withinB l = true ↔ Wi l := by
  refine ⟨fun h x hx => ?_, within_of⟩
  unfold withinB at h
  simp only [Bool.not_eq_true', List.any_eq_false, bne_iff_ne, ne_eq, Decidable.not_not] at h
  have := cutI_range x
  rw [← h x hx] at this
  exact this
def ToOk (s : St) : Prop := 0 ≤ s.to ∧ s.to < 3 ∧ (s.isSealed = false → s.to = 0)
theorem mayB_iff {s : St} : mayB s = true ↔ ToOk s ∧ (((s.kind = 0 ∨ s.kind = 1) ∧ s.L.length = 1 ∧ Wi s.L) ∨ ((s.kind = 2 ∨ s.kind = 3) ∧ s.L.length ≤ 64 ∧ Wi s.L) ∨ (s.kind = 4 ∧ pairsB s.L (-1099511627776) = true) ∨ (s.kind = 5 ∧ pairsB s.L 0 = true)) := by
  unfold mayB ToOk
  by_cases h : s.to < 0 ∨ 3 ≤ s.to ∨ (s.isSealed = false ∧ s.to ≠ 0)
  · rw [if_pos h]
    constructor
    · intro e; simp at e
    · rintro ⟨⟨h1, h2, h3⟩, _⟩
      rcases h with h | h | ⟨h, h'⟩
      · omega
      · omega
      · exact absurd (h3 h) h'
  · rw [if_neg h]
    have ht : 0 ≤ s.to ∧ s.to < 3 ∧ (s.isSealed = false → s.to = 0) := by
      refine ⟨by omega, by omega, fun e => ?_⟩
      by_cases h0 : s.to = 0
      · exact h0
      · exact absurd (.inr (.inr ⟨e, h0⟩)) h
    rw [← withinB_iff]
    by_cases k0 : s.kind = 0 ∨ s.kind = 1
    · rw [if_pos k0]; simp [ht]
      constructor
      · intro e; exact ⟨ht.2.2, .inl ⟨k0, e⟩⟩
      · rintro ⟨_, ⟨_, e⟩ | ⟨e, _⟩ | ⟨e, _⟩ | ⟨e, _⟩⟩
        · exact e
        all_goals omega
    · rw [if_neg k0]
      by_cases k2 : s.kind = 2 ∨ s.kind = 3
      · rw [if_pos k2]; simp [ht]
        constructor
        · intro e; exact ⟨ht.2.2, .inr (.inl ⟨k2, e⟩)⟩
        · rintro ⟨_, ⟨e, _⟩ | ⟨_, e⟩ | ⟨e, _⟩ | ⟨e, _⟩⟩
          · omega
          · exact e
          all_goals omega
      · rw [if_neg k2]
        by_cases k4 : s.kind = 4
        · rw [if_pos k4]; simp [ht, k4]; exact fun _ => ht.2.2
        · rw [if_neg k4]
          by_cases k5 : s.kind = 5
          · rw [if_pos k5]; simp [ht, k5]; exact fun _ => ht.2.2
          · rw [if_neg k5]; simp; intros; omega

def setL (s : St) (l : List Int) : St := { s with L := l }
theorem number_may {s : St} {o : Op3} (h : s.L.length = 1 ∧ Wi s.L) : ∃ l n, numberS s o = (setL s l, n) ∧ l.length = 1 ∧ Wi l := by
  have hc : ∀ x : Int, ([cutI x] : List Int).length = 1 ∧ Wi [cutI x] := fun x => ⟨rfl, by intro y hy; rw [List.mem_singleton.1 hy]; exact cutI_range x⟩
  unfold numberS
  split
  · exact ⟨_, _, rfl, h⟩
  · split
    · exact ⟨_, _, rfl, hc _⟩
    · split
      · exact ⟨_, _, rfl, hc _⟩
      · exact ⟨_, _, rfl, h⟩
theorem line_may {s : St} {o : Op3} (h : s.L.length ≤ 64 ∧ Wi s.L) : ∃ l n, lineS s o = (setL s l, n) ∧ l.length ≤ 64 ∧ Wi l := by
  unfold lineS
  split
  · exact ⟨_, _, rfl, h⟩
  · split
    · rename_i h1
      exact ⟨_, _, rfl, by simp; omega, h.2.snoc (cutI_range _)⟩
    · split
      · exact ⟨_, _, rfl, h⟩
      · split
        · exact ⟨_, _, rfl, h⟩
        · split
          · exact ⟨_, _, rfl, by simp; omega, h.2.drop _⟩
          · exact ⟨_, _, rfl, by simp; omega, h.2.take _⟩
theorem store_may {s : St} {o : Op3} (h : pairsB s.L (-1099511627776) = true) : ∃ l n, storeS s o = (setL s l, n) ∧ pairsB l (-1099511627776) = true := by
  unfold storeS
  split
  · exact ⟨_, _, rfl, h⟩
  · split
    · exact ⟨_, _, rfl, h⟩
    · rename_i h1 h2
      have hc := cutI_range o.b
      split
      · exact ⟨_, _, rfl, pairsB_del h⟩
      · split
        · split
          · rename_i hb
            exact ⟨_, _, rfl, pairsB_put h hb (by omega) (by omega) hc.1 hc.2⟩
          · exact ⟨_, _, rfl, h⟩
        · exact ⟨_, _, rfl, h⟩
theorem found_of_has {l : List Int} {key : Int} (h : hasI l key ≠ -1) : foundB l key = true := by
  cases hf : foundB l key
  · exact absurd (has_unfound hf) h
  · rfl
/-- A move's second put: the account it comes from is there still. -/
theorem move_from {l : List Int} {a b n : Int} (he : l.length % 2 = 0) (hb : putB l b = true) (hf : foundB l a = true) : putB (putL l b n) a = true := by
  unfold putB
  rw [putL_eq he hb, found_putR _ _ _ _ he, hf]
  simp
theorem move_has {l : List Int} {a b n : Int} (he : l.length % 2 = 0) (hb : putB l b = true) (hne : a ≠ b) : hasI (putL l b n) a = hasI l a := by
  rw [putL_eq he hb, has_putR _ _ _ _ he, if_neg hne]
theorem move_may {s : St} {o : Op3} (h : pairsB s.L 0 = true) : ∃ l n, moveS s o = (setL s l, n) ∧ pairsB l 0 = true := by
  unfold moveS
  split
  · exact ⟨_, _, rfl, h⟩
  · split
    · exact ⟨_, _, rfl, h⟩
    · split
      · exact ⟨_, _, rfl, h⟩
      · split
        · exact ⟨_, _, rfl, h⟩
        · rename_i h1 h2 h3 h4
          have hpb : putB s.L (o.a % 256) = true := by
            cases hb : putB s.L (o.a % 256)
            · exact absurd (.inl hb) h4
            · rfl
          have hev := (pairsB_iff.1 h).2.1
          have hf : foundB s.L (o.a / 256) = true := found_of_has (by omega)
          have hr := pairsB_has (key := o.a / 256) h
          exact ⟨_, _, rfl, pairsB_put (pairsB_put h hpb (by omega) (by omega) (by omega) (by omega)) (move_from hev hpb hf) (by omega) (by omega) (by omega) (by omega)⟩
theorem ledger_may {s : St} {o : Op3} (h : pairsB s.L 0 = true) : ∃ l n, ledgerS s o = (setL s l, n) ∧ pairsB l 0 = true := by
  unfold ledgerS
  split
  · exact move_may h
  · split
    · exact ⟨_, _, rfl, h⟩
    · split
      · exact ⟨_, _, rfl, h⟩
      · split
        · exact ⟨_, _, rfl, h⟩
        · split
          · exact ⟨_, _, rfl, h⟩
          · split
            · rename_i h1 h2 h3 h4 h5 hb
              have hc := cutI_range (max (hasI s.L o.a) 0 + cutI o.b)
              have hz : 0 ≤ cutI (max (hasI s.L o.a) 0 + cutI o.b) := by
                have : 0 ≤ cutI o.b := by unfold cutI; split <;> (try split) <;> omega
                generalize hx : max (hasI s.L o.a) 0 + cutI o.b = x
                have : 0 ≤ x := by omega
                unfold cutI; split <;> (try split) <;> omega
              exact ⟨_, _, rfl, pairsB_put h hb (by omega) (by omega) hz hc.2⟩
            · exact ⟨_, _, rfl, h⟩

/-- What may be may be behind any operation; what is sealed stays. -/
theorem step_stays {s : St} (o : Op3) (h : mayB s = true) : mayB (stepS s o).1 = true ∧ (stepS s o).1.kind = s.kind ∧ (s.isSealed = true → stepS s o = (s, -1125899906842624)) ∧ (stepS s o).1.isSealed = (s.isSealed || decide (o.code = 10)) := by
  have hm := mayB_iff.1 h
  unfold stepS
  rw [if_neg (by simp [h])]
  by_cases hs : s.isSealed = true
  · rw [if_pos hs]; simp [h, hs]
  · rw [if_neg hs]
    have hs' : s.isSealed = false := by simpa using hs
    by_cases hc : o.code = 10
    · rw [if_pos hc]
      refine ⟨mayB_iff.2 ⟨?_, hm.2⟩, rfl, fun e => absurd e hs, by simp [hc]⟩
      unfold ToOk at hm ⊢
      simp only
      refine ⟨?_, ?_, by simp⟩ <;> split <;> omega
    · rw [if_neg hc]
      have key : ∀ {r : St × Int}, (∃ l n, r = (setL s l, n) ∧ (ToOk s → mayB (setL s l) = true)) → mayB r.1 = true ∧ r.1.kind = s.kind ∧ (s.isSealed = true → r = (s, -1125899906842624)) ∧ r.1.isSealed = (s.isSealed || decide (o.code = 10)) := by
        rintro r ⟨l, n, rfl, hr⟩
        exact ⟨hr hm.1, rfl, fun e => absurd e hs, by simp [setL, hc]⟩
      rcases hm.2 with ⟨hk, hl⟩ | ⟨hk, hl⟩ | ⟨hk, hl⟩ | ⟨hk, hl⟩
      · rw [if_pos hk]
        obtain ⟨l, n, e, h1⟩ := number_may (o := o) hl
        exact key ⟨l, n, e, fun ht => mayB_iff.2 ⟨ht, .inl ⟨hk, h1⟩⟩⟩
      · rw [if_neg (by omega), if_pos hk]
        obtain ⟨l, n, e, h1⟩ := line_may (o := o) hl
        exact key ⟨l, n, e, fun ht => mayB_iff.2 ⟨ht, .inr (.inl ⟨hk, h1⟩)⟩⟩
      · rw [if_neg (by omega), if_neg (by omega), if_pos hk]
        obtain ⟨l, n, e, h1⟩ := store_may (o := o) hl
        exact key ⟨l, n, e, fun ht => mayB_iff.2 ⟨ht, .inr (.inr (.inl ⟨hk, h1⟩))⟩⟩
      · rw [if_neg (by omega), if_neg (by omega), if_neg (by omega)]
        obtain ⟨l, n, e, h1⟩ := ledger_may (o := o) hl
        exact key ⟨l, n, e, fun ht => mayB_iff.2 ⟨ht, .inr (.inr (.inr ⟨hk, h1⟩))⟩⟩

/-! ### The sum of a ledger -/
def sumP : List Int → Int
  | _ :: v :: r => v + sumP r
  | _ => 0
theorem sum_putR (key n : Int) : ∀ l : List Int, l.length % 2 = 0 → sumP (putR l key n) = sumP l + n - (if foundB l key then hasI l key else 0)
  | k :: v :: r, h => by
    have ih := sum_putR key n r (by simp at h; omega)
    rw [putR, foundB_cons, hasI_cons]
    by_cases c : k < key
    · simp only [if_pos c, sumP, ih]; omega
    · simp only [if_neg c]
      by_cases d : k = key
      · simp only [if_pos d, sumP, beq_iff_eq]; omega
      · simp only [if_neg d, sumP, beq_iff_eq]; simp; omega
  | [k], h => by simp at h
  | [], _ => by simp [putR, sumP, foundB_nil]
theorem sum_take : ∀ (l : List Int) (j : Nat), 2 * j + 1 < l.length → sumP (l.take (2 * (j + 1))) = sumP (l.take (2 * j)) + l.getD (2 * j + 1) 0
  | k :: v :: r, 0, _ => by simp [sumP]
  | k :: v :: r, j + 1, h => by
    have ih := sum_take r j (by simp at h; omega)
    have e1 : 2 * (j + 1 + 1) = 2 * (j + 1) + 1 + 1 := by omega
    have e2 : 2 * (j + 1) = 2 * j + 1 + 1 := by omega
    rw [e1]
    simp only [List.take_succ_cons, sumP, ih]
    rw [e2]
    simp only [List.take_succ_cons, sumP, List.getD_cons_succ]
    omega
  | [k], j, h => by simp at h
  | [], j, h => by simp at h
theorem sum_range : ∀ (l : List Int) (last : Int) (j : Nat), pairsGo 0 last l = true → 0 ≤ sumP (l.take (2 * j)) ∧ sumP (l.take (2 * j)) ≤ 1099511627776 * j
  | _, _, 0, _ => by simp [sumP]
  | k :: v :: r, last, j + 1, h => by
    rw [pairsGo_cons] at h
    have ih := sum_range r k j h.2
    have e2 : 2 * (j + 1) = 2 * j + 1 + 1 := by omega
    rw [e2]
    simp only [List.take_succ_cons, sumP]
    omega
  | [k], last, j + 1, h => by
    have e2 : 2 * (j + 1) = 2 * j + 1 + 1 := by omega
    rw [e2]; simp [sumP]; omega
  | [], last, j + 1, h => by simp [sumP]; omega
theorem pairs_value : ∀ (l : List Int) (last least : Int) (j : Nat), pairsGo least last l = true → 2 * j + 1 < l.length → least ≤ l.getD (2 * j + 1) 0 ∧ l.getD (2 * j + 1) 0 ≤ 1099511627776
  | k :: v :: r, last, least, 0, h, _ => by rw [pairsGo_cons] at h; simp; omega
  | k :: v :: r, last, least, j + 1, h, hl => by
    rw [pairsGo_cons] at h
    have := pairs_value r k least j h.2 (by simp at hl; omega)
    have e2 : 2 * (j + 1) + 1 = 2 * j + 1 + 1 + 1 := by omega
    rw [e2]
    simpa using this
  | [k], last, least, j, h, hl => by simp at hl
  | [], last, least, j, h, hl => by simp at hl
/-- A move leaves the sum; one that does not respond 1 leaves all. -/
theorem step_moves {s : St} (o : Op3) (h : mayB s = true) (hk : s.kind = 5) (ho : o.code = 9) : sumP (stepS s o).1.L = sumP s.L ∧ ((stepS s o).2 = 1 ∨ (stepS s o).1 = s) := by
  have hm := mayB_iff.1 h
  have hp : pairsB s.L 0 = true := by
    rcases hm.2 with ⟨e, _⟩ | ⟨e, _⟩ | ⟨e, _⟩ | ⟨_, e⟩
    · omega
    · omega
    · omega
    · exact e
  unfold stepS
  rw [if_neg (by simp [h])]
  by_cases hs : s.isSealed = true
  · rw [if_pos hs]; simp
  · rw [if_neg hs, if_neg (by omega), if_neg (by omega), if_neg (by omega), if_neg (by omega)]
    unfold ledgerS
    rw [if_pos ho]
    unfold moveS
    split
    · simp
    · split
      · simp
      · split
        · simp
        · split
          · simp
          · rename_i h1 h2 h3 h4
            have hpb : putB s.L (o.a % 256) = true := by
              cases hb : putB s.L (o.a % 256)
              · exact absurd (.inl hb) h4
              · rfl
            have hev := (pairsB_iff.1 hp).2.1
            have hf : foundB s.L (o.a / 256) = true := found_of_has (by omega)
            have hfm := move_from (n := max (hasI s.L (o.a % 256)) 0 + o.b) hev hpb hf
            refine ⟨?_, .inl rfl⟩
            simp only
            have hev2 : (putL s.L (o.a % 256) (max (hasI s.L (o.a % 256)) 0 + o.b)).length % 2 = 0 := by rw [putL_eq hev hpb]; exact putR_even hev
            rw [putL_eq hev2 hfm, sum_putR _ _ _ hev2, move_has hev hpb (by omega)]
            have hff : foundB (putL s.L (o.a % 256) (max (hasI s.L (o.a % 256)) 0 + o.b)) (o.a / 256) = true := by
              rw [putL_eq hev hpb, found_putR _ _ _ _ hev, hf]; simp
            rw [hff, if_pos rfl, putL_eq hev hpb, sum_putR _ _ _ hev]
            cases hg : foundB s.L (o.a % 256)
            · rw [has_unfound hg]; simp; omega
            · have := pairs_hasR (pairsB_iff.1 hp).1 hg hev
              simp only [if_pos]; omega
end Go.Proofs.Ytaoagaokocnehaa
