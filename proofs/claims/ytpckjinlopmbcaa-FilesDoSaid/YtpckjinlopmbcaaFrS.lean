/-
  The document's disk: set.
-/
import Derived.Test.YtpckjinlopmbcaaFsD
import Derived.Test.YtpckjinlopmbcaaWLast
import Derived.StillTailTactics
namespace Go.Proofs.Ytpckjinlopmbcaa
set_option linter.unusedVariables false
set_option maxRecDepth 100000
set_option linter.unusedSimpArgs false
open Go.RowKit Go.Maps
open Go.Proofs.YtpckjinlopmbcaaW.PrintLast
/-- Names in which one has a file, or none. -/
def setD (l : Dir) (n : Int) (f : Int) : Dir := if f < 0 then rmD l n else putD l n f.toNat
/-- One name looked at. -/
def stepS (n : Int) (f : Nat) (st : Dir × Bool) (x : Int × Nat) : Dir × Bool :=
  let st1 : Dir × Bool := if st.2 = false ∧ n < x.1 then (st.1 ++ [(n, f)], true) else st
  if x.1 ≠ n then (st1.1 ++ [x], st1.2) else st1
def foldS (n : Int) (f : Nat) (l : Dir) (st : Dir × Bool) : Dir × Bool := l.foldl (stepS n f) st
def endS (n : Int) (f : Nat) (st : Dir × Bool) : Dir := if st.2 = false then st.1 ++ [(n, f)] else st.1
theorem foldS_done (n : Int) (f : Nat) (l : Dir) : ∀ O : Dir, foldS n f l (O, true) = (O ++ rmD l n, true) := by
  induction l with
  | nil => intro O; simp [foldS, rmD]
  | cons x l ih =>
    intro O
    show foldS n f l (stepS n f (O, true) x) = _
    by_cases h : x.1 = n
    · have e : stepS n f (O, true) x = (O, true) := by simp [stepS, h]
      rw [e, ih]; simp [rmD, h]
    · have e : stepS n f (O, true) x = (O ++ [x], true) := by simp [stepS, h]
      rw [e, ih]; simp [rmD, h]
theorem foldS_not (n : Int) (f : Nat) (l : Dir) : ∀ O : Dir, endS n f (foldS n f l (O, false)) = O ++ insD (n, f) (rmD l n) := by
  induction l with
  | nil => intro O; simp [foldS, endS, rmD, insD]
  | cons x l ih =>
    intro O
    show endS n f (foldS n f l (stepS n f (O, false) x)) = _
    by_cases h : x.1 = n
    · have e : stepS n f (O, false) x = (O, false) := by simp [stepS, h]
      rw [e, ih]
      have : rmD (x :: l) n = rmD l n := by simp [rmD, h]
      rw [this]
    · have hr : rmD (x :: l) n = x :: rmD l n := by simp [rmD, h]
      by_cases h2 : n < x.1
      · have e : stepS n f (O, false) x = (O ++ [(n, f)] ++ [x], true) := by simp [stepS, h, h2]
        rw [e, foldS_done, hr]
        simp [endS, insD, h2]
      · have e : stepS n f (O, false) x = (O ++ [x], false) := by simp [stepS, h, h2]
        rw [e, ih, hr]
        simp [insD, h2]
theorem setS_eq (l : Dir) (n f : Int) : endS n f.toNat (foldS n f.toNat l ([], decide (f < 0))) = setD l n f := by
  unfold setD
  by_cases h : f < 0
  · rw [if_pos h, decide_eq_true h, foldS_done]; simp [endS]
  · rw [if_neg h, decide_eq_false h, foldS_not]; simp [putD]
theorem foldS_take (n : Int) (f : Nat) {l : Dir} {i : Nat} {x : Int × Nat} (hx : l[i]? = some x) (st : Dir × Bool) : foldS n f (l.take (i + 1)) st = stepS n f (foldS n f (l.take i) st) x := by
  unfold foldS
  rw [List.take_add_one, hx, Option.toList_some, List.foldl_append]; rfl
theorem foldS_len (n : Int) (f : Nat) (l : Dir) : ∀ st : Dir × Bool, (foldS n f l st).1.length ≤ st.1.length + 2 * l.length := by
  induction l with
  | nil => intro st; exact Nat.le_refl _
  | cons x l ih =>
    intro st
    have := ih (stepS n f st x)
    have h2 : (stepS n f st x).1.length ≤ st.1.length + 2 := by
      unfold stepS
      split <;> split <;> simp
    show (foldS n f l (stepS n f st x)).1.length ≤ _
    simp only [List.length_cons]
    omega
/-- Names in memory. -/
def nmC (l : Dir) : List Value := l.flatMap fun x => [.int .i64 x.1, .int .i64 x.2]
theorem nmC_length (l : Dir) : (nmC l).length = l.length * 2 := by
  induction l with
  | nil => rfl
  | cons x l ih => unfold nmC at ih ⊢; rw [List.flatMap_cons, List.length_append, ih]; simp; omega
theorem nmC_append (l m : Dir) : nmC (l ++ m) = nmC l ++ nmC m := by simp [nmC]
theorem nmC_get {l : Dir} {i : Nat} {x : Int × Nat} (hx : l[i]? = some x) : (nmC l)[i * 2]? = some (.int .i64 x.1) ∧ (nmC l)[i * 2 + 1]? = some (.int .i64 x.2) := by
  induction l generalizing i with
  | nil => simp at hx
  | cons a l ih =>
    cases i with
    | zero => simp at hx; subst hx; exact ⟨rfl, rfl⟩
    | succ i =>
      have hx : l[i]? = some x := by simpa using hx
      have := ih hx
      have e : nmC (a :: l) = [.int .i64 a.1, .int .i64 a.2] ++ nmC l := rfl
      rw [e, List.getElem?_append_right (by simp; omega), List.getElem?_append_right (by simp; omega)]
      have e1 : (i + 1) * 2 - ([Value.int .i64 a.1, .int .i64 a.2]).length = i * 2 := by simp; omega
      have e2 : (i + 1) * 2 + 1 - ([Value.int .i64 a.1, .int .i64 a.2]).length = i * 2 + 1 := by simp; omega
      rw [e1, e2]; exact this
/-- Names that are read. -/
def RdN (w : World) (v : Value) (l : Dir) : Prop :=
  ∃ a c, v = .slice a l.length c ∧ l.length ≤ c ∧ c ≤ 9223372036854775807 ∧ (0 < l.length → ∃ b o cs, a = some ⟨b, o, none⟩ ∧ Blk w b cs 78 ∧ ∀ (i : Nat) (x : Int × Nat), l[i]? = some x → w.cell? ⟨b, o + i * 2, none⟩ = some (.int .i64 x.1) ∧ w.cell? ⟨b, o + i * 2 + 1, none⟩ = some (.int .i64 x.2))
theorem RdN.keeps {F : Nat → Prop} {w w' : World} {v : Value} {l : Dir} (h : RdN w v l) (k : Keeps F w w') (hd : 0 < l.length → ∀ b, v.ownBlock = some b → ¬ F b) : RdN w' v l := by
  obtain ⟨a, c, rfl, h1, h2, h3⟩ := h
  refine ⟨a, c, rfl, h1, h2, fun hl => ?_⟩
  obtain ⟨b, o, cs, e2, hlt, hc⟩ := h3 hl
  have hb : ¬ F b := hd hl b (by rw [e2]; rfl)
  exact ⟨b, o, cs, e2, hlt.keeps k hb, fun i x hx => ⟨k.cellSome hb (hc i x hx).1, k.cellSome hb (hc i x hx).2⟩⟩
theorem RdN.below {w w' : World} {v : Value} {l : Dir} (h : RdN w v l) (hb : Below w.heap.size w w') : RdN w' v l := h.keeps (F := fun _ => False) (Keeps.ofBelow hb) (fun _ _ _ h => h)
theorem rdn_nil (w : World) : RdN w (.slice none 0 0) [] := ⟨none, 0, rfl, by simp, by simp, by simp⟩
theorem own_rdn {w : World} {v : Value} {l : Dir} (h : Own w 78 2 v l.length (nmC l)) : RdN w v l := by
  rcases h.2 with ⟨rfl, e0⟩ | ⟨g, cap, cur, rfl, _, hh, h1, h2, _⟩
  · have : l = [] := List.eq_nil_of_length_eq_zero e0
    subst this
    exact rdn_nil w
  · simp only [maxLen] at h2
    refine ⟨_, _, rfl, h1, by omega, fun hl => ⟨g, 0, _, rfl, hh, fun i x hx => ?_⟩⟩
    have hi := (List.getElem?_eq_some_iff.1 hx).1
    obtain ⟨g1, g2⟩ := nmC_get hx
    rw [Nat.zero_add]
    exact ⟨(World.ownsRow.cellAt h (i * 2) (by omega)).trans g1, (World.ownsRow.cellAt h (i * 2 + 1) (by omega)).trans g2⟩
theorem infoNm : (Try.prog.info? 78).map (fun i => (i.zero, i.size, i.bytes)) = some (some (.agg #[.int .i64 0, .int .i64 0]), 2, 16) := by kernel_rfl
/-- A name more behind a row of names. -/
theorem wpList_napp {w w0 : World} {ops : Array Oper} {rest : List Oper} {o : Oper} {a : Act} {Q : Exit → Act → World → Prop} (hgd : o.guard = none) (s x : Operand)
    (ho : o.op = .call { callee := .builtin .append, args := #[s, x], argTypes := #[50, 50] }) (v : Value) (l : Dir) (hs : a.eval s = v) (hown : Own w 78 2 v l.length (nmC l)) (y : Int × Nat) (g c : Nat) (hx : a.eval x = .slice (some ⟨g, 0, none⟩) 1 c)
    (hB : Blk w g #[.int .i64 y.1, .int .i64 y.2] 78) (hl : l.length ≤ 1099511627776)
    (h : ∀ v' w', Own w' 78 2 v' (l ++ [y]).length (nmC (l ++ [y])) → w.grownBy w' v.ownBlock → (∀ k, v'.ownBlock = some k → v.ownBlock = some k ∨ w.heap.size ≤ k) → wpList Try.prog ops Q rest (a.put o.dst v') w') : wpList Try.prog ops Q (o :: rest) a w := by
  obtain ⟨i0, hi, hz0, hz1, hz2⟩ := info_parts infoNm
  refine wpList_append_own_at w hgd s x 50 ho 0 78 i0 (.agg #[.int .i64 0, .int .i64 0]) 2 16 Try.underlying50 hi hz0 hz1 hz2 rfl (by decide) v l.length (nmC l) hs hown ⟨g, 0, none⟩ 1 c [.int .i64 y.1, .int .i64 y.2] hx (by simp) hB.news (by intro u hu; simp at hu; rcases hu with rfl | rfl <;> rfl) (by simp only [maxLen]; omega) (by omega) (Nat.zero_le _) ?_
  intro v' w' h1 h2 h3 h4
  refine h v' w' ?_ h2 (fun k hk => ?_)
  · rw [List.length_append, nmC_append]; exact h1
  · rcases h4 with e | e
    · exact .inl (e ▸ hk)
    · rw [e] at hk; exact .inr (by have := Option.some.inj hk; omega)
theorem below_grown {B : Nat} {a w w' : World} {r : Option Nat} (h : Below B a w) (hB : B ≤ w.heap.size) (hg : w.grownBy w' r) (hr : ∀ k, r = some k → B ≤ k) : Below B a w' := h.trans (((Keeps.refl (fun q => r = some q) w).grown hg (fun k e => .inl e)).below hr hB)
/-- What set leaves. -/
def SetP (w : World) (l : Dir) (e : Ending) (w' : World) : Prop := ∃ v', e = .returned v' ∧ RdN w' v' l ∧ (0 < l.length → ∀ k, v'.ownBlock = some k → w.heap.size ≤ k) ∧ Below w.heap.size w w'
set_option maxHeartbeats 3200000 in
theorem r_set {w : World} {v : Value} {l : Dir} (h : RdN w v l) (hl : l.length ≤ 1000000) (n f : Int) :
    Calls Try.prog 58 #[v, .int .i64 n, .int .i64 f] w (SetP w (setD l n f)) := by
  obtain ⟨a, c, rfl, hc1, hc2, -⟩ := id h
  have HH := Lib.hid h
  have hset := Lib.hid (setS_eq l n f)
  have hfF : ∀ i, (foldS n f.toNat (l.take i) ([], decide (f < 0))).2 = false → ∃ F : Nat, f = F := fun i hd => by
    by_cases h : f < 0
    · rw [decide_eq_true h, foldS_done] at hd; cases hd
    · exact ⟨f.toNat, by omega⟩
  have hln : ∀ i, (foldS n f.toNat (l.take i) ([], decide (f < 0))).1.length ≤ 2000000 := fun i => by
    have := foldS_len n f.toNat (l.take i) ([], decide (f < 0))
    have h2 : (l.take i).length ≤ l.length := by rw [List.length_take]; exact Nat.min_le_right _ _
    simp only [List.length_nil] at this
    omega
  have HFF := Lib.hid hfF
  have HLN := Lib.hid hln
  clear h hfF hln
  go_enter Try.func58, Try.ntmps58
  go_wp2_with fail
  go_loopw [7, 8, 9] (fun ov dv iv wr => ∃ i : Nat, i ≤ l.length ∧ iv = .int .i64 i ∧ dv = .bool (foldS n f.toNat (l.take i) ([], decide (f < 0))).2 ∧ Own wr 78 2 ov (foldS n f.toNat (l.take i) ([], decide (f < 0))).1.length (nmC (foldS n f.toNat (l.take i) ([], decide (f < 0))).1) ∧ (∀ k, ov.ownBlock = some k → w.heap.size ≤ k) ∧ Below w.heap.size w wr) (fun _ _ iv _ => l.length - (intOf iv).toNat)
  case atStart => exact ⟨0, by omega, rfl, rfl, World.ownsRow_nil .., by simp [Value.ownBlock], Below.refl _ _⟩
  case round =>
    obtain ⟨i, hi, rfl, rfl, hO, hf, hB⟩ := hrel
    obtain ⟨ao, co, rfl⟩ := own_shape hO
    by_cases hlt : i < l.length
    · have d1 : decide ((i : Int) < (l.length : Int)) = true := decide_eq_true (by omega)
      obtain ⟨x, hx⟩ : ∃ x, l[i]? = some x := ⟨_, List.getElem?_eq_getElem hlt⟩
      have hst := foldS_take n f.toNat hx ([], decide (f < 0))
      obtain ⟨av, cv, e, -, -, hcc⟩ := id HH.out
      simp only [Value.slice.injEq, true_and] at e
      obtain ⟨rfl, rfl⟩ := e
      obtain ⟨b, o, bcs, rfl, hbk, hcell⟩ := hcc (by omega)
      have hbw := hbk.lt
      clear hbk
      have HAL := Lib.hid (show ∀ W, Below w.heap.size w W → W.cell? ⟨b, o + i * 2, none⟩ = some (.int .i64 x.1) ∧ W.cell? ⟨b, o + i * 2 + 1, none⟩ = some (.int .i64 x.2) from fun W hb => ⟨(hb.cell (p := ⟨b, _, none⟩) hbw).trans (hcell i x hx).1, (hb.cell (p := ⟨b, _, none⟩) hbw).trans (hcell i x hx).2⟩)
      obtain ⟨c0, c1⟩ := HAL.out wr hB
      have i0 : (0 : Int) ≤ (i : Int) := by omega
      have i1 : (i : Int) < (l.length : Int) := by omega
      have wi : IntKind.i64.wrap ((i : Int) + 1) = (i : Int) + 1 := IntWalk.i64_in _ (by omega)
      have hff := HFF.out i
      have hln := HLN.out i
      have HST := Lib.hid hst
      generalize foldS n f.toNat (l.take i) ([], decide (f < 0)) = st at *
      obtain ⟨O, dn⟩ := st
      simp only at hO hff hln
      have FIN := Lib.hid (show ∀ (d' : Bool) (O' : Dir) (v5 : Value) (w5 : World), stepS n f.toNat (O, dn) x = (O', d') → Own w5 78 2 v5 O'.length (nmC O') → (∀ k, v5.ownBlock = some k → w.heap.size ≤ k) → Below w.heap.size w w5 →
        Value.bool d' = .bool (foldS n f.toNat (l.take (i + 1)) ([], decide (f < 0))).2 ∧ Own w5 78 2 v5 (foldS n f.toNat (l.take (i + 1)) ([], decide (f < 0))).1.length (nmC (foldS n f.toNat (l.take (i + 1)) ([], decide (f < 0))).1) ∧ (∀ k, v5.ownBlock = some k → w.heap.size ≤ k) ∧ Below w.heap.size w w5 from fun d' O' v5 w5 h1 h2 h3 h4 => by rw [HST.out, h1]; exact ⟨rfl, h2, h3, h4⟩)
      have HO := Lib.hid hO
      have HF := Lib.hid hf
      have HB := Lib.hid hB
      clear hO hf hB hst hcell hcc hx HFF HLN HST
      cases dn with
      | true =>
        clear hff
        by_cases hne : x.1 = n
        · have e1 : (x.1 != n) = false := by simpa using hne
          have e1' : (x.1 == n) = true := by simpa using hne
          have F2 := Lib.hid (FIN.out true O _ wr (by simp [stepS, hne]) HO.out HF.out HB.out)
          go_wp2_with fail
          exact ⟨⟨i + 1, by omega, by go_num, F2.out⟩, by simp [intOf]; omega⟩
        · have e1 : (x.1 != n) = true := by simpa using hne
          have e1' : (x.1 == n) = false := by simpa using hne
          have hB2 := Blk.new wr #[.int .i64 x.1, .int .i64 x.2] 78
          go_wp2_with (at_builtin; refine wpList_napp (w0 := w) rfl _ _ rfl (.slice ao O.length co) O rfl (HO.out.alloc _) x wr.heap.size 1 rfl hB2 (by omega) ?_; intro v5 w5 hO5 hg5 hat5)
          have hz : wr.heap.size ≤ (wr.alloc (.cells #[.int .i64 x.1, .int .i64 x.2] 78)).heap.size := by simp
          have F2 := FIN.out true (O ++ [x]) v5 w5 (by simp [stepS, hne]) hO5 (fun k hk => (hat5 k hk).elim (HF.out k) (fun h => by have := HB.out.size; omega)) (below_grown (HB.out.alloc HB.out.size _) (by have := HB.out.size; omega) hg5 HF.out)
          exact ⟨⟨i + 1, by omega, by go_num, F2⟩, by simp [intOf]; omega⟩
      | false =>
        obtain ⟨F, rfl⟩ := hff rfl
        rw [Int.toNat_natCast] at FIN
        clear hff
        by_cases hne : x.1 = n
        · have e1 : (x.1 != n) = false := by simpa using hne
          have e1' : (x.1 == n) = true := by simpa using hne
          have e2 : decide (n < x.1) = false := decide_eq_false (by omega)
          have F2 := Lib.hid (FIN.out false O _ wr (by simp [stepS, hne]) HO.out HF.out HB.out)
          have h2 : ¬ n < x.1 := by omega
          go_wp2_with fail
          exact ⟨⟨i + 1, by omega, by go_num, F2.out⟩, by simp [intOf]; omega⟩
        · have e1 : (x.1 != n) = true := by simpa using hne
          have e1' : (x.1 == n) = false := by simpa using hne
          have hz : wr.heap.size ≤ (wr.alloc (.cells #[.int .i64 x.1, .int .i64 x.2] 78)).heap.size := by simp
          by_cases h2 : n < x.1
          · have e2 : decide (n < x.1) = true := decide_eq_true h2
            have hB2 := Blk.new wr #[.int .i64 n, .int .i64 F] 78
            have hl1 : (O ++ [(n, F)]).length = O.length + 1 := by simp
            have HL1 := Lib.hid hl1
            clear hl1
            go_wp2_with (first
              | (at_builtin; refine wpList_napp (w0 := w) rfl _ _ rfl (.slice ao O.length co) O rfl (HO.out.alloc _) (n, F) wr.heap.size 1 rfl hB2 (by omega) ?_; intro v5 w5 hO5 hg5 hat5; have hb5 := below_grown (HB.out.alloc HB.out.size _) (by have := HB.out.size; simp; omega) hg5 HF.out; have hf5 : ∀ k, v5.ownBlock = some k → w.heap.size ≤ k := (fun k hk => (hat5 k hk).elim (HF.out k) (fun h => by have := HB.out.size; simp at h; omega)); obtain ⟨a5, c5, e5⟩ := own_shape hO5; subst e5; obtain ⟨k0, k1⟩ := HAL.out w5 hb5; have HB5 := Lib.hid hb5; have HF5 := Lib.hid hf5; have HO5 := Lib.hid hO5; have hB6 := Blk.new w5 #[.int .i64 x.1, .int .i64 x.2] 78; clear hb5 hf5 hO5 hg5 hat5 hB2 c0 c1)
              | (at_builtin; refine wpList_napp (w0 := w) rfl _ _ rfl (.slice a5 (O ++ [(n, F)]).length c5) (O ++ [(n, F)]) (by first | rfl | (rw [HL1.out]; rfl)) (HO5.out.alloc _) x w5.heap.size 1 rfl hB6 (by have := HL1.out; omega) ?_; intro v6 w6 hO6 hg6 hat6))
            have F2 := FIN.out true (O ++ [(n, F)] ++ [x]) v6 w6 (by simp [stepS, hne, h2]) hO6 (fun k hk => (hat6 k hk).elim (HF5.out k) (fun h => by have := HB5.out.size; simp at h; omega)) (below_grown (HB5.out.alloc HB5.out.size _) (by have := HB5.out.size; simp; omega) hg6 HF5.out)
            exact ⟨⟨i + 1, by omega, by go_num, F2⟩, by simp [intOf]; omega⟩
          · have e2 : decide (n < x.1) = false := decide_eq_false h2
            have hB2 := Blk.new wr #[.int .i64 x.1, .int .i64 x.2] 78
            go_wp2_with (at_builtin; refine wpList_napp (w0 := w) rfl _ _ rfl (.slice ao O.length co) O rfl (HO.out.alloc _) x wr.heap.size 1 rfl hB2 (by omega) ?_; intro v5 w5 hO5 hg5 hat5)
            have F2 := FIN.out false (O ++ [x]) v5 w5 (by simp [stepS, hne, h2]) hO5 (fun k hk => (hat5 k hk).elim (HF.out k) (fun h => by have := HB.out.size; omega)) (below_grown (HB.out.alloc HB.out.size _) (by have := HB.out.size; omega) hg5 HF.out)
            exact ⟨⟨i + 1, by omega, by go_num, F2⟩, by simp [intOf]; omega⟩
    · have hil : i = l.length := by omega
      rw [hil] at hO hf
      rw [hil]
      clear hil hlt hi
      have hst : l.take l.length = l := List.take_length
      rw [hst] at hO hf ⊢
      have d1 : decide ((l.length : Int) < (l.length : Int)) = false := decide_eq_false (by omega)
      have hff := HFF.out l.length
      have hln := HLN.out l.length
      rw [hst] at hff hln
      have hse := hset
      generalize foldS n f.toNat l ([], decide (f < 0)) = st at *
      obtain ⟨O, dn⟩ := st
      simp only at hO hff hln
      have HO := Lib.hid hO
      have HF := Lib.hid hf
      have HB := Lib.hid hB
      clear hO hf hB hst HFF HLN
      cases dn with
      | true =>
        have FIN := Lib.hid (show SetP w (setD l n f) (.returned (.slice ao O.length co)) wr from ⟨_, rfl, by rw [← hset.out]; exact own_rdn HO.out, fun _ => HF.out, HB.out⟩)
        clear hff hset hse
        go_wp2_with fail
        go_ret
        exact FIN.out
      | false =>
        obtain ⟨F, rfl⟩ := hff rfl
        rw [Int.toNat_natCast] at hset
        clear hff hse
        have hB2 := Blk.new wr #[.int .i64 n, .int .i64 F] 78
        have hz : wr.heap.size ≤ (wr.alloc (.cells #[.int .i64 n, .int .i64 F] 78)).heap.size := by simp
        have FIN := Lib.hid (show ∀ v5 w5, Own w5 78 2 v5 (O ++ [(n, F)]).length (nmC (O ++ [(n, F)])) → (∀ k, v5.ownBlock = some k → w.heap.size ≤ k) → Below w.heap.size w w5 → SetP w (setD l n F) (.returned v5) w5 from fun v5 w5 h1 h2 h3 => ⟨_, rfl, by rw [← hset.out]; exact own_rdn h1, fun _ => h2, h3⟩)
        clear hset
        go_wp2_with (at_builtin; refine wpList_napp (w0 := w) rfl _ _ rfl (.slice ao O.length co) O rfl (HO.out.alloc _) (n, F) wr.heap.size 1 rfl hB2 (by omega) ?_; intro v5 w5 hO5 hg5 hat5)
        go_ret
        exact FIN.out v5 w5 hO5 (fun k hk => (hat5 k hk).elim (HF.out k) (fun h => by have := HB.out.size; omega)) (below_grown (HB.out.alloc HB.out.size _) (by have := HB.out.size; omega) hg5 HF.out)
end Go.Proofs.Ytpckjinlopmbcaa
