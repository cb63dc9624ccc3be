/-
  Bytes: slices of bytes that are read, rows of bytes, Clone, append([]byte(nil), s...).
-/
import Derived.Test.YtpckjinlopmbcaaProg
import Derived.Test.YtpckjinlopmbcaaB
import Derived.Test.YtpckjinlopmbcaaRd
import Derived.Lib.SliceRun
import Derived.Lib.Overlaps
import Derived.StillTailTactics
import Derived.WalkSpells
namespace Go.Proofs.Ytpckjinlopmbcaa
set_option linter.unusedVariables false
set_option maxRecDepth 100000
set_option linter.unusedSimpArgs false
open Go.RowKit

def byt (l : List Int) : List Value := l.map (.int .u8)
theorem byt_length (l : List Int) : (byt l).length = l.length := by simp [byt]
theorem byt_get (l : List Int) (i : Nat) (h : i < l.length) : (byt l)[i]? = some (.int .u8 (l.getD i 0)) := by
  simp [byt, List.getElem?_eq_getElem h, List.getD_eq_getElem?_getD]
theorem byt_one (l : List Int) : ∀ u ∈ byt l, u.oneCell' = true := by
  intro u hu
  obtain ⟨x, _, rfl⟩ := List.mem_map.1 hu
  rfl
/-- A slice of byt that reads as xs. -/
def Rb (w : World) (v : Value) (xs : List Int) : Prop :=
  ∃ a c, v = .slice a xs.length c ∧ xs.length ≤ c ∧ c ≤ 9223372036854775807 ∧ (0 < xs.length → ∃ b o, a = some ⟨b, o, none⟩ ∧ b < w.heap.size ∧ ∀ i, i < xs.length → w.cell? ⟨b, o + i, none⟩ = some (.int .u8 (xs.getD i 0)))
theorem Rb.below {w w' : World} {v : Value} {xs : List Int} (h : Rb w v xs) {B : Nat} (hb : Below B w w') (hB : w.heap.size ≤ B) : Rb w' v xs := by
  obtain ⟨a, c, e, h1, h2, h3⟩ := h
  refine ⟨a, c, e, h1, h2, fun hl => ?_⟩
  obtain ⟨b, o, e2, hlt, hc⟩ := h3 hl
  exact ⟨b, o, e2, Nat.lt_of_lt_of_le hlt hb.size, fun i hi => (hb.cell (p := ⟨b, o + i, none⟩) (Nat.lt_of_lt_of_le hlt hB)).trans (hc i hi)⟩
theorem Rb.keeps {F : Nat → Prop} {w w' : World} {v : Value} {xs : List Int} (h : Rb w v xs) (k : Keeps F w w') (hd : ∀ b, v.ownBlock = some b → ¬ F b) : Rb w' v xs := by
  obtain ⟨a, c, rfl, h1, h2, h3⟩ := h
  refine ⟨a, c, rfl, h1, h2, fun hl => ?_⟩
  obtain ⟨b, o, e2, hlt, hc⟩ := h3 hl
  refine ⟨b, o, e2, Nat.lt_of_lt_of_le hlt k.size, fun i hi => k.cellSome (hd b ?_) (hc i hi)⟩
  rw [e2]
  rfl
theorem Rb.alloc {w : World} {v : Value} {xs : List Int} (h : Rb w v xs) (o : Obj) : Rb (w.alloc o) v xs := h.below ((Below.refl _ w).alloc (Nat.le_refl _) o) (Nat.le_refl _)
theorem Rb.drew {w : World} {v : Value} {xs : List Int} (h : Rb w v xs) : Rb w.drew v xs := h
theorem Rb.drewN {w : World} {v : Value} {xs : List Int} (h : Rb w v xs) (n : Nat) : Rb (w.drewN n) v xs := h
theorem rb_nil (w : World) : Rb w (.slice none 0 0) [] := ⟨none, 0, rfl, by simp, by simp, by simp⟩
theorem own_rb {w : World} {e : TypeId} {v : Value} {n : Nat} {xs : List Int} (h : Own w e 1 v n (byt xs)) : Rb w v xs := by
  have hl : xs.length = n := by have := h.1; simpa [byt] using this
  subst hl
  rcases h.2 with ⟨rfl, e0⟩ | ⟨g, cap, cur, rfl, _, hh, h1, h2, _⟩
  · have : xs = [] := List.eq_nil_of_length_eq_zero e0
    subst this
    exact rb_nil w
  · simp only [maxLen] at h2
    refine ⟨_, _, rfl, h1, by omega, fun hl => ⟨g, 0, rfl, (Array.getElem?_eq_some_iff.1 hh).1, fun i hi => ?_⟩⟩
    rw [Nat.zero_add, World.ownsRow.cellAt h i (by omega), byt_get _ _ hi]
/-- What a walk takes of it. -/
theorem Rb.view {w : World} {v : Value} {xs : List Int} (h : Rb w v xs) : ∃ (n : Nat) (a : Option Addr) (c : Nat) (f : Nat → Int), v = .slice a n c ∧ n = xs.length ∧ n ≤ c ∧ c ≤ 9223372036854775807 ∧ (∀ i, f i = xs.getD i 0) ∧
    (0 < n → ∃ b o, a = some ⟨b, o, none⟩ ∧ b < w.heap.size ∧ ∀ i, i < n → w.cell? ⟨b, o + i, none⟩ = some (.int .u8 (f i))) := by
  obtain ⟨a, c, e, h1, h2, h3⟩ := h
  exact ⟨_, a, c, fun i => xs.getD i 0, e, rfl, h1, h2, fun _ => rfl, h3⟩
theorem Rb.news {w : World} {v : Value} {xs : List Int} (h : Rb w v xs) : ∃ a c, v = .slice a xs.length c ∧ ∀ ad, a = some ad → ∀ j u, (byt xs)[j]? = some u → w.cell? (ad.add j) = some u := by
  obtain ⟨a, c, e, h1, h2, h3⟩ := h
  refine ⟨a, c, e, fun ad had j u hu => ?_⟩
  have hj : j < xs.length := by
    have := (List.getElem?_eq_some_iff.1 hu).1
    simpa [byt] using this
  obtain ⟨b, o, e2, _, hc⟩ := h3 (by omega)
  rw [had] at e2
  injection e2 with e2
  subst e2
  rw [byt_get _ _ hj] at hu
  injection hu with hu
  subst hu
  rw [show (⟨b, o, none⟩ : Addr).add j = ⟨b, o + j, none⟩ by unfold Addr.add; split <;> simp_all]
  exact hc j hj

theorem infoB : (Try.prog.info? 5).map (fun i => (i.zero, i.size, i.bytes)) = some (some (.int .u8 0), 1, 1) := by kernel_rfl

/-- What Clone leaves: a row of its own. -/
def BCloneP (w : World) (xs : List Int) (e : Ending) (w' : World) : Prop :=
  ∃ v', e = .returned v' ∧ Own w' 5 1 v' xs.length (byt xs) ∧ (∀ k, v'.ownBlock = some k → w.heap.size ≤ k) ∧ Below w.heap.size w w'

set_option maxHeartbeats 800000 in
theorem sl_bclone {w : World} {v : Value} {xs : List Int} (h : Rb w v xs) (hl : xs.length ≤ 17592186044416) :
    Calls Try.prog 36 #[v] w (BCloneP w xs) := by
  obtain ⟨i0, hi, hz0, hz1, hz2⟩ := info_parts infoB
  obtain ⟨a, c, rfl, hnews⟩ := h.news
  have hq : ∀ (w : World) (a : Option Addr) (n c n' c' : Nat), (binOp .eql 22 (.slice a n c) (.slice none n' c')).run Try.prog w = .ok (.bool a.isNone) w := fun w a n c n' c' => Lib.run_eql_slice_nil w _ _ a n c n' c' Try.underlying22
  cases a with
  | none =>
    have hx : xs = [] := by
      obtain ⟨a, c, e, _, _, h3⟩ := h
      by_cases h0 : 0 < xs.length
      · obtain ⟨b, o, e2, _⟩ := h3 h0
        rw [e2] at e
        simp at e
      · exact List.eq_nil_of_length_eq_zero (by omega)
    subst hx
    have fin : BCloneP w [] (.returned (.slice none 0 0)) w := ⟨_, rfl, World.ownsRow_nil .., by simp [Value.ownBlock], Below.refl _ _⟩
    have HF := Lib.hid fin
    clear fin hnews h
    go_enter Try.func36, Try.ntmps36
    go_wp2
    go_ret
    exact HF.out
  | some ad =>
    have hn := hnews ad rfl
    have fin : ∀ v' w1, Own w1 5 1 v' (0 + xs.length) ([] ++ byt xs) → (w.alloc (.cells #[] 5)).grownBy w1 (some w.heap.size) → (v'.ownBlock = some w.heap.size ∨ v'.ownBlock = some (w.heap.size + 1)) → BCloneP w xs (.returned v') w1 := by
      intro v' w1 hown hg hat
      refine ⟨v', rfl, by simpa using hown, ?_, ((Below.refl _ w).alloc (Nat.le_refl _) _).grown hg (by simp) (by rintro k ⟨⟩; exact Nat.le_refl _)⟩
      intro k hk
      rcases hat with e | e <;> rw [e] at hk <;> injection hk <;> omega
    have HF := Lib.hid fin
    have HN := Lib.hid hn
    have HO : Own (w.alloc (.cells #[] 5)) 5 1 (.slice (some ⟨w.heap.size, 0, none⟩) 0 0) 0 [] := by
      have := own_lit w 5 [] (by simp)
      simpa using this
    have HW := Lib.hid HO
    have HC : Hid (∀ j u, (byt xs)[j]? = some u → (w.alloc (.cells #[] 5)).cell? (ad.add j) = some u) := fun j u hu => Lib.cell?_alloc_some _ (hn j u hu)
    clear fin hn hnews h HO
    go_enter Try.func36, Try.ntmps36
    go_wp2_with (at_builtin; refine wpList_append_own_at _ rfl _ _ 22 rfl 0 5 i0 (.int .u8 0) 1 1 Try.underlying22 hi hz0 hz1 hz2 rfl (by decide) (.slice (some ⟨w.heap.size, 0, none⟩) 0 0) _ _ rfl HW.out ad xs.length c (byt xs) rfl (by simp [byt]) HC.out (byt_one xs) (by simp only [maxLen]; omega) (by omega) (Nat.zero_le _) ?_; intro v' w1 hown hgrow hnil hat)
    go_ret
    exact HF.out _ _ hown hgrow (by simpa [Value.ownBlock] using hat)

theorem grown_refl (w : World) : w.grownBy w none := ⟨rfl, rfl, rfl, Nat.le_refl _, fun _ _ _ => rfl⟩
/-- append([]byte(nil), s...): a row of the program's own that reads as s. -/
theorem wpList_bcopy_nil {w : World} {ops : Array Oper} {rest : List Oper} {o : Oper} {a : Act} {Q : Exit → Act → World → Prop} (hgd : o.guard = none) (s x : Operand)
    (ho : o.op = .call { callee := .builtin .append, args := #[s, x], argTypes := #[22, 22] }) (hs : a.eval s = .slice none 0 0) (v : Value) (L : List Int) (hx : a.eval x = v) (hrd : Rb w v L) (hl : L.length ≤ 1099511627776)
    (h : ∀ v' w', Own w' 5 1 v' L.length (byt L) → w.grownBy w' none → (∀ k, v'.ownBlock = some k → k = w.heap.size) → wpList Try.prog ops Q rest (a.put o.dst v') w') : wpList Try.prog ops Q (o :: rest) a w := by
  obtain ⟨i0, hi, hz0, hz1, hz2⟩ := info_parts infoB
  obtain ⟨ao, c, rfl, hnews⟩ := hrd.news
  cases ao with
  | none =>
    obtain rfl : L = [] := by
      obtain ⟨a', c', e, _, _, h3⟩ := hrd
      simp only [Value.slice.injEq] at e
      rcases L with _ | ⟨y, L⟩
      · rfl
      · obtain ⟨b, o', e', _⟩ := h3 (by simp)
        rw [← e.1] at e'
        cases e'
    refine wpList_append2 w hgd s x 22 22 ho _ _ hs hx (r := .slice none 0 0) (w' := w) (fun ty => ?_) (h _ _ (World.ownsRow_nil ..) (grown_refl _) (fun k hk => by simp [Value.ownBlock] at hk))
    simp [Builtin.append_, run_underlying Try.underlying22, sizeOf, typeInfo, hi, hz1, Builtin.lenOf, Builtin.firstCells]
  | some ad =>
    refine wpList_append_own_at w hgd s x 22 ho 0 5 i0 (.int .u8 0) 1 1 Try.underlying22 hi hz0 hz1 hz2 rfl (by decide) (.slice none 0 0) 0 [] hs (World.ownsRow_nil ..) ad L.length c (byt L) hx (by simp [byt]) (hnews ad rfl) (byt_one _) (by simp only [maxLen]; omega) (by omega) (Nat.zero_le _) ?_
    intro v' w' h1 h2 h3 h4
    rw [Nat.zero_add, List.nil_append] at h1
    refine h v' w' h1 h2 (fun k hk => ?_)
    rcases h4 with e | e
    · rw [e] at hk; simp [Value.ownBlock] at hk
    · rw [e] at hk; simpa using hk.symm
theorem own_set {w : World} {e T : TypeId} {s n b : Nat} {v : Value} {xs : List Value} {cs : Array Value} (h : Own w e s v n xs) (hB : Blk w b cs T) (hne : e ≠ T) (i : Nat) (x : Value) : Own (w.setCell ⟨b, i, none⟩ x) e s v n xs :=
  own_keeps h (Keeps.one w ⟨b, i, none⟩ x) (fun q hq hf => own_blk_ne h hB hne (by rw [hq]; exact congrArg some hf))
theorem own_drew {w : World} {e : TypeId} {s n : Nat} {v : Value} {xs : List Value} (h : Own w e s v n xs) : Own w.drew e s v n xs := h
theorem blk_ne {w : World} {b b' : Nat} {cs cs' : Array Value} {T T' : TypeId} (h : Blk w b cs T) (h' : Blk w b' cs' T') (hne : T ≠ T') : b ≠ b' := fun e => by
  subst e
  unfold Blk at h h'
  rw [h] at h'
  injection h' with h'
  injection h' with _ ht
  exact hne ht
theorem rb_keeps {F : Nat → Prop} {w w' : World} {v : Value} {xs : List Int} (h : Rb w v xs) (k : Keeps F w w') (hd : 0 < xs.length → ∀ b, v.ownBlock = some b → ¬ F b) : Rb w' v xs := by
  obtain ⟨a, c, rfl, h1, h2, h3⟩ := h
  refine ⟨a, c, rfl, h1, h2, fun hl => ?_⟩
  obtain ⟨b, o, e2, hlt, hc⟩ := h3 hl
  refine ⟨b, o, e2, Nat.lt_of_lt_of_le hlt k.size, fun i hi => k.cellSome (hd hl b ?_) (hc i hi)⟩
  rw [e2]
  rfl
theorem rb_block {w : World} {v : Value} {xs : List Int} (h : Rb w v xs) (h0 : 0 < xs.length) : ∀ k, v.ownBlock = some k → k < w.heap.size := by
  intro k hk
  obtain ⟨a, c, rfl, _, _, h3⟩ := h
  obtain ⟨b, o, rfl, hb, _⟩ := h3 h0
  simp [Value.ownBlock] at hk
  omega
theorem keeps_grown {F : Nat → Prop} {a w w' : World} (h : Keeps F a w) (hg : w.grownBy w' none) : Keeps F a w' := h.grown hg (fun k e => by cases e)
theorem own_shape2 {w : World} {e : TypeId} {size : Nat} {v : Value} {n : Nat} {xs : List Value} (h : Own w e size v n xs) : ∃ a c, v = .slice a n c ∧ n ≤ c ∧ c ≤ maxLen := by
  rcases h.2 with ⟨h1, h2⟩ | ⟨g, cap, cur, h1, _, _, h2, h3, _, _⟩
  · exact ⟨none, 0, by rw [h1, h2], by omega, by decide⟩
  · exact ⟨_, cap, h1, h2, h3⟩
/-- A block from B on. -/
def Fresh (B : Nat) (v : Value) : Prop := ∀ k, v.ownBlock = some k → B ≤ k
end Go.Proofs.Ytpckjinlopmbcaa
