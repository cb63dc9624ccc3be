/-
  Package herlihy as an engine.
-/
import Derived.Test.YtjfenjnnpikkdaaKad
import Derived.Test.YtjfenjnnpikkdaaKba
import Derived.Test.YtjfenjnnpikkdaaKd
import Derived.Test.YtjfenjnnpikkdaaKh
import Derived.Test.YtjfenjnnpikkdaaKjd
set_option linter.unusedVariables false
set_option linter.unusedSimpArgs false
namespace Go.Proofs.Ytjfenjnnpikkdaa
set_option maxRecDepth 100000
open Go.RowKit

/-- Package herlihy in memory. -/
def heRep (n : Nat) (start : St) : ERepT HS := fun w base fp b m H => ∃ R, HRep w base b R n start H ∧ (∀ k, fp k ↔ R.own k ≠ none) ∧ HG n start H ∧ HSz H m

theorem heRep.post {n m : Nat} {start : St} {w w' : World} {base b : Nat} {fp : Nat → Prop} {R : HRef} {H' : HS} {v : Value} {e : Ending} (hfp : ∀ k, fp k ↔ R.own k ≠ none) (hI : HG n start H') (hz : HSz H' m) (h : HPost w base b R n start H' v e w') : EPost (heRep n start) w base fp b m H' v e w' := by
  obtain ⟨rfl, R', h1, h2, h3⟩ := h
  exact ⟨rfl, fun k => R'.own k ≠ none, ⟨R', h1, fun _ => Iff.rfl, hI, hz⟩, fun k hk => by simp only [h2 k hk, hfp], h3.mono fun k hk => (hfp k).2 hk⟩
theorem heRep.same {n m : Nat} {start : St} {w : World} {base b : Nat} {fp : Nat → Prop} {H : HS} {v : Value} (h : heRep n start w base fp b m H) {m' : Nat} (hm : m ≤ m') : EPost (heRep n start) w base fp b m' H v (.returned v) w := by
  obtain ⟨R, h1, h2, h3, h4⟩ := h
  exact ⟨rfl, fp, ⟨R, h1, h2, h3, h4.mono hm⟩, fun k _ => Iff.rfl, Keeps.refl _ _⟩

theorem heIf (n : Nat) (start : St) (hn : 0 < n ∧ n ≤ 64) : EngIf (heRep n start) (heLin n start) 33 34 35 30 31 where
  keeps := by
    rintro w w' base fp b m E F ⟨R, h1, h2, h3, h4⟩ hK hF
    exact ⟨R, h1.keeps hK (fun k hk => ⟨by have := (hF k hk).1; rw [h2] at this; simpa using this, (hF k hk).2⟩), h2, h3, h4⟩
  mono := by
    rintro w base fp b m m' E ⟨R, h1, h2, h3, h4⟩ hm
    exact ⟨R, h1, h2, h3, h4.mono hm⟩
  lt := by
    rintro w base fp b m E ⟨R, h1, h2, h3, h4⟩ k hk
    exact h1.fresh k ((h2 k).1 hk)
  inv := by rintro w base fp b m E ⟨R, h1, h2, h3, h4⟩; exact h3
  small := hn
  invoke := by
    rintro w base fp b m E ⟨R, h1, h2, h3, h4⟩ hm p o
    by_cases hp : 0 ≤ p ∧ p < n
    · obtain ⟨q, rfl⟩ := Int.eq_ofNat_of_zero_le hp.1
      have hq : q < n := by omega
      by_cases hf : fitsB o = true
      · by_cases hb : (E.procs q).ph = .idle
        · have hc : codeI (heLin n start) E (q : Int) o = 0 := (codeI_zero _ _ _ _).2 ⟨by omega, hp.2, hf, by simp [heLin, hb]⟩
          have hi : invI (heLin n start) E (q : Int) o = E.invoke q o := by unfold invI; rw [if_pos hc]; rfl
          rw [hc, hi]
          have ha := h4.nodes
          have hmn := h4.many q
          refine (he_invoke_ok h1 hq h3.clt o hf hb (by omega) (by omega)).mono fun e w' h => ?_
          exact heRep.post h2 (h3.invoke hq hb o) (h4.invoke o) h
        · have hc : codeI (heLin n start) E (q : Int) o = 14 := by
            unfold codeI
            rw [if_pos ⟨by omega, hp.2, hf⟩, if_pos (by simp [heLin, hb])]
          have hi : invI (heLin n start) E (q : Int) o = E := by unfold invI; rw [if_neg (by rw [hc]; decide)]
          rw [hc, hi]
          exact (he_invoke_busy h1 hq o hf hb).mono fun e w' h => heRep.post h2 h3 (h4.mono (by omega)) h
      · have hc : codeI (heLin n start) E (q : Int) o = 1 := by unfold codeI; rw [if_neg (fun g => hf g.2.2)]
        have hi : invI (heLin n start) E (q : Int) o = E := by unfold invI; rw [if_neg (by rw [hc]; decide)]
        rw [hc, hi]
        exact (he_invoke_arg h1 q o (.inr (by simpa using hf))).mono fun e w' h => heRep.post h2 h3 (h4.mono (by omega)) h
    · have hc : codeI (heLin n start) E p o = 1 := by unfold codeI; rw [if_neg (fun g => hp ⟨g.1, g.2.1⟩)]
      have hi : invI (heLin n start) E p o = E := by unfold invI; rw [if_neg (by rw [hc]; decide)]
      rw [hc, hi]
      exact (he_invoke_arg h1 p o (.inl hp)).mono fun e w' h => heRep.post h2 h3 (h4.mono (by omega)) h
  step := by
    rintro w base fp b m E ⟨R, h1, h2, h3, h4⟩ hm p
    by_cases hp : 0 ≤ p ∧ p < n ∧ (E.procs p.toNat).ph ≠ .idle
    · obtain ⟨q, rfl⟩ := Int.eq_ofNat_of_zero_le hp.1
      have hb := hp.2.2
      rw [Int.toNat_natCast] at hb
      have e : stpI (heLin n start) E (q : Int) = E.step n q := by
        rw [stpI_pos _ _ _ ⟨hp.1, hp.2.1, by simpa [heLin] using hb⟩]; rfl
      rw [e]
      have hq : q < n := by omega
      exact (he_step h1 hq h3 h4 hm hb).mono fun e w' h => heRep.post h2 (h3.step_ hq hb).1 h4.step h
    · have e : stpI (heLin n start) E p = (E, 0, false) := stpI_neg _ _ _ (fun g => hp ⟨g.1, g.2.1, by simpa [heLin] using g.2.2⟩)
      rw [e]
      refine (he_step_not h1 p ?_).mono ?_
      · by_cases g : 0 ≤ p ∧ p < n
        · exact .inr (by have : ¬ (E.procs p.toNat).ph ≠ .idle := fun h => hp ⟨g.1, g.2, h⟩
                         exact Decidable.not_not.1 this)
        · exact .inl g
      · rintro e w' ⟨rfl, rfl⟩
        exact heRep.same ⟨R, h1, h2, h3, h4⟩ (by omega)
  busy := by
    rintro w base fp b m E ⟨R, h1, h2, h3, h4⟩ hm p
    refine (he_busy h1 p).mono ?_
    rintro e w' ⟨rfl, rfl⟩
    have e : decide (0 ≤ p ∧ p < (heLin n start).n ∧ (heLin n start).busy E p.toNat = true) = decide (0 ≤ p ∧ p < n ∧ (E.procs p.toNat).ph ≠ .idle) := by
      simp [heLin]
    rw [e]
    exact heRep.same ⟨R, h1, h2, h3, h4⟩ (Nat.le_refl _)
  log := by
    rintro w base fp b m E ⟨R, h1, h2, h3, h4⟩ hm
    have hs : start.L.length ≤ 300 := by rw [← h3.st0]; exact h4.lenL 0
    have hc := h4.chain
    refine (he_log h1 h3 hs (by omega)).mono ?_
    rintro e w' ⟨v', st, rfl, ho, hf, hr, hK⟩
    exact ⟨v', rfl, ho, hf, fp, ⟨_, hr, h2, h3, h4⟩, fun _ _ => Iff.rfl, fun k hk hfk => by have := hf k hk; have := h1.fresh k ((h2 k).1 hfk); omega, hK.mono fun k hk => (h2 k).2 (by rw [h1.machT k hk]; simp)⟩
  state := by
    rintro w base fp b m E ⟨R, h1, h2, h3, h4⟩ hm
    have hs : start.L.length ≤ 300 := by rw [← h3.st0]; exact h4.lenL 0
    have hc := h4.chain
    refine (he_state h1 h3 hs (by omega)).mono ?_
    rintro e w' ⟨v', S, st, hS, hl, rfl, hrd, hr, hK⟩
    exact ⟨v', S, hS, hl, rfl, hrd, fp, ⟨_, hr, h2, h3, h4⟩, fun _ _ => Iff.rfl, hK.mono fun k hk => (h2 k).2 (by rw [h1.machT k hk]; simp)⟩

theorem he_start {w : World} {vl : Value} (s : St) (hx : Rd w vl s.L) (hl : s.L.length ≤ 300) (n : Nat) (hm1 : mayB s = true) (hn1 : 1 ≤ n) (hn2 : n ≤ 64) :
    Calls Try.prog 28 #[stV s vl, .int .i64 n] w (ENew (heRep n s) w (heZero n s)) := by
  refine (he_new s hx hl n hm1 hn1 hn2).mono ?_
  rintro e w' ⟨b, R, rfl, h1, h2⟩
  exact ⟨b, fun k => R.own k ≠ none, rfl, ⟨R, h1, fun _ => Iff.rfl, HG.zero (by omega) s, HSz.zero hl⟩, h2⟩
theorem he_zero (n : Nat) (s : St) (hn : 0 < n) : ZeroIf (heLin n s) (heZero n s) := ⟨HG.zero hn s, fun p _ => rfl, fun p _ => rfl, rfl⟩
theorem he_start_no {w : World} {vl : Value} (s : St) (hx : Rd w vl s.L) (n : Int) (hno : ¬ (mayB s = true ∧ 1 ≤ n ∧ n ≤ 64)) :
    Calls Try.prog 28 #[stV s vl, .int .i64 n] w fun e w' => e = .returned (.tuple #[.pointer none, .int .i64 1]) ∧ Below w.heap.size w w' := by
  refine he_new_no s hx n ?_
  by_cases h : mayB s = true
  · by_cases h1 : n < 1
    · exact .inr (.inl h1)
    · exact .inr (.inr (by
        apply Classical.byContradiction
        intro h2
        exact hno ⟨h, by omega, by omega⟩))
  · exact .inl (by simpa using h)
end Go.Proofs.Ytjfenjnnpikkdaa
/- Scripts as arguments. -/
namespace Go.Proofs.Ytjfenjnnpikkdaa
set_option maxRecDepth 100000
open Go.RowKit Go.ChangeShapes Go.WideShapes Go.Deep
section
variable {H : Type} {enc : TypeId × Value → H} {W : World} {base : Nat} {held : Bool}
theorem Try.cells_evHe : Try.prog.cellsOf 67 = 5 := by kernel_rfl
theorem flat_evHe (n : Nat) (cs : List Value) (y : DataW H × List MemPlace) (h : DataW.trod enc Try.prog W base (fun _ => true) held n 67 cs = some y) : ∀ j, j < 5 → ∃ k, cs[j]? = some (.int .i64 k) := by
  obtain ⟨y0, y1, y2, m', hx', hl, u0, u1, u2⟩ := trod_struct3 Try.underlying67 h
  rw [Try.cells_evHe] at hl
  obtain ⟨c0, c1, c2, c3, c4, rfl⟩ : ∃ c0 c1 c2 c3 c4, cs = [c0, c1, c2, c3, c4] := by
    match cs, hl with
    | [a, b, c, d, e], _ => exact ⟨a, b, c, d, e, rfl⟩
  simp only [Try.cells_int, Try.cells_op, List.drop, List.take] at u0 u1 u2
  obtain ⟨k, e0, _, _⟩ := DataW.trod_int Try.underlying3 u0
  obtain ⟨a, e1, _, _⟩ := DataW.trod_int Try.underlying3 u1
  obtain ⟨b, c, d, e2⟩ := flat_op _ _ _ u2
  simp only [List.cons.injEq, and_true] at e0 e1 e2
  obtain ⟨e2, e3, e4⟩ := e2
  subst e0 e1 e2 e3 e4
  intro j hj
  rcases j with _ | _ | _ | _ | _ | j
  · exact ⟨_, rfl⟩
  · exact ⟨_, rfl⟩
  · exact ⟨_, rfl⟩
  · exact ⟨_, rfl⟩
  · exact ⟨_, rfl⟩
  · omega
end
end Go.Proofs.Ytjfenjnnpikkdaa
/- What the statements of a layer's engine share: awake, few. -/
namespace Go.Proofs.Ytjfenjnnpikkdaa
set_option maxRecDepth 100000
open Go.RowKit

theorem he_few {w : World} {vl : Value} (s : St) (hx : Rd w vl s.L) (a : Option Addr) (len cap : Nat) :
    Calls Try.prog 27 #[stV s vl, .slice a len cap] w (Tells w (decide (s.L.length ≤ 300 ∧ len ≤ 1500))) := by
  obtain ⟨al, c, rfl, _⟩ := id hx
  have hb1 : Below w.heap.size w (w.alloc (.cells #[.int .i64 s.kind, .slice al s.L.length c, .bool s.isSealed, .int .i64 s.to] 24)) := (Below.refl _ _).alloc (Nat.le_refl _) _
  have hF := few04 (w := (w.alloc (.cells #[.int .i64 s.kind, .slice al s.L.length c, .bool s.isSealed, .int .i64 s.to] 24))) s (hx.alloc _)
  have HF := Lib.hid hF
  have HB := Lib.hid hb1
  by_cases h1 : s.L.length ≤ 300
  · by_cases h2 : len ≤ 1500
    · have d2 : decide ((len : Int) ≤ 1500) = true := decide_eq_true (by omega)
      have d0 : decide (s.L.length ≤ 300 ∧ len ≤ 1500) = true := decide_eq_true ⟨h1, h2⟩
      rw [d0]
      rw [decide_eq_true h1] at HF
      clear hx hb1 hF d0
      go_enter Try.func27, Try.ntmps27
      go_wp2_with (go_at_call 36; refine HF.out.mono ?_; rintro e w3 ⟨rfl, hb3⟩; have H3 := Lib.hid hb3; clear hb3)
      go_ret
      exact ⟨rfl, HB.out.trans (H3.out.mono (by simp))⟩
    · have d2 : decide ((len : Int) ≤ 1500) = false := decide_eq_false (by omega)
      have d0 : decide (s.L.length ≤ 300 ∧ len ≤ 1500) = false := decide_eq_false (fun h => h2 h.2)
      rw [d0]
      rw [decide_eq_true h1] at HF
      clear hx hb1 hF d0
      go_enter Try.func27, Try.ntmps27
      go_wp2_with (go_at_call 36; refine HF.out.mono ?_; rintro e w3 ⟨rfl, hb3⟩; have H3 := Lib.hid hb3; clear hb3)
      go_ret
      exact ⟨rfl, HB.out.trans (H3.out.mono (by simp))⟩
  · have d0 : decide (s.L.length ≤ 300 ∧ len ≤ 1500) = false := decide_eq_false (fun h => h1 h.1)
    rw [d0]
    rw [decide_eq_false h1] at HF
    clear hx hb1 hF d0
    go_enter Try.func27, Try.ntmps27
    go_wp2_with (go_at_call 36; refine HF.out.mono ?_; rintro e w3 ⟨rfl, hb3⟩; have H3 := Lib.hid hb3; clear hb3)
    go_ret
    exact ⟨rfl, HB.out.trans (H3.out.mono (by simp))⟩

abbrev EngOfHe {σ : Type} (Rep : ERepT σ) (L : Lin σ) : Prop := EngIf Rep L 33 34 35 30 31
abbrev awkS : St := ⟨0, [0], false, 0⟩
set_option maxRecDepth 100000 in
set_option maxHeartbeats 6400000 in
theorem he_awake {σ : Type} {Rep : ERepT σ} {L : Lin σ} (I : EngOfHe Rep L) {B : Nat → Nat} (S : SoloIf L B) (hB : B 0 + 1 ≤ 500) (hs : L.start = awkS) {E0 : σ} (hz : ZeroIf L E0)
    (hNew : ∀ w vl, Rd w vl awkS.L → Calls Try.prog 28 #[stV awkS vl, .int .i64 2] w (ENew Rep w E0)) (w : World) : Calls Try.prog 26 #[] w (Tells w true) := by
  have hn := I.small.1
  have hrd := rd_lit w [0] 1 rfl (by decide)
  have hN := hNew _ _ hrd
  have hbs : Below w.heap.size w (w.alloc (.cells (ints [0]).toArray 3)) := (Below.refl _ _).alloc (Nat.le_refl _) _
  have hc : codeI L E0 0 ⟨1, 5, 0⟩ = 0 := (codeI_zero _ _ _ _).2 ⟨by decide, by omega, by decide, hz.busy _ hn⟩
  have hi : invI L E0 0 ⟨1, 5, 0⟩ = L.invoke E0 0 ⟨1, 5, 0⟩ := by unfold invI; rw [if_pos hc]; rfl
  have HN := Lib.hid hN
  have HBS := Lib.hid hbs
  clear hNew hN hrd hbs
  go_enter Try.func26, Try.ntmps26
  go_wp2_with fail
  refine HN.out.mono ?_
  rintro e w1 ⟨b, fp, rfl, hR1, hb1⟩
  have hB1 := HBS.out.trans (hb1.mono (by simp))
  have hbase : w.heap.size ≤ (w.alloc (.cells (ints [0]).toArray 3)).heap.size := HBS.out.size
  generalize (w.alloc (.cells (ints [0]).toArray 3)).heap.size = base at *
  have HI := Lib.hid (I.invoke hR1 (by decide) 0 ⟨1, 5, 0⟩)
  rw [hc, hi] at HI
  have HR1 := Lib.hid hR1
  clear hb1 hR1 HN HBS
  go_wp2_with (go_at_call 33; refine HI.out.mono ?_; rintro e w2 ⟨rfl, fp2, hR2, hfp2, hK2⟩)
  have hB2 := hB1.trans (hK2.below (fun k hk => Nat.le_trans hbase (I.lt HR1.out k hk).1) hB1.size)
  clear hK2 hfp2 hB1 HI
  have hb0 := hz.busy 0 hn
  have hb1 : L.busy (L.invoke E0 0 ⟨1, 5, 0⟩) 0 = true := by rw [L.busy_invoke E0 0 ⟨1, 5, 0⟩ hz.inv hn hb0]; simp
  have hI1 := L.inv_invoke E0 0 ⟨1, 5, 0⟩ hz.inv hn hb0 (by decide)
  have hdone : (soloS L (L.invoke E0 0 ⟨1, 5, 0⟩) 0 500).2.2 = true := by
    have h1 := solo_done S hI1 hn hb1 (fun q hq hne => by rw [L.busy_invoke E0 0 ⟨1, 5, 0⟩ hz.inv hn hb0, hz.busy q hq]; simp [hne])
    rw [L.log_invoke E0 0 ⟨1, 5, 0⟩ hz.inv hn hb0, hz.log, List.length_nil] at h1
    rw [Int.natCast_zero] at h1
    rw [solo_stay L _ _ h1 500 hB]
    exact h1
  have hend := solo_end (k := 500) hz.inv hn hz.busy (o := ⟨1, 5, 0⟩) (by decide) (by rw [Int.natCast_zero]; exact hdone)
  rw [Int.natCast_zero, hz.log, hs, show stepS (behind awkS []) ⟨1, 5, 0⟩ = (⟨0, [5], false, 0⟩, 0) by decide +kernel] at hend
  generalize L.invoke E0 0 ⟨1, 5, 0⟩ = E1 at *
  go_loopw [4, 5, 6] (fun nv dv iv wr => ∃ (k : Nat) (fp : Nat → Prop), k ≤ 500 ∧ iv = .int .i64 k ∧ nv = .int .i64 (soloS L E1 0 k).2.1 ∧ dv = .bool (soloS L E1 0 k).2.2 ∧ Rep wr base fp b (k + 1) (soloS L E1 0 k).1 ∧ Below w.heap.size w wr) (fun _ _ iv _ => 500 - (intOf iv).toNat)
  case atStart => exact ⟨0, fp2, by decide, rfl, rfl, rfl, hR2, hB2⟩
  case round =>
    obtain ⟨k, fpk, hk, rfl, rfl, rfl, hR, hBk⟩ := hrel
    clear hR2 hB2
    by_cases hlt : k < 500
    · have d1 : decide ((k : Int) < 500) = true := decide_eq_true (by omega)
      by_cases hd : (soloS L E1 0 k).2.2 = true
      · rw [hd]
        have hst := solo_stay L E1 0 hd 500 (by omega)
        rw [hst] at hend
        have hm1 : k + 1 < 1000000 := by omega
        obtain ⟨he1, he2, -, -, -⟩ := hend
        have HT := Lib.hid (I.state hR hm1)
        have HB := Lib.hid hBk
        have HR := Lib.hid hR
        rw [he1]
        clear hR hBk he1
        go_wp2_with (go_at_call 31; refine HT.out.mono ?_; rintro e w3 ⟨v3, s3, hs3, hl3, rfl, hO3, fp3, hR3, hfp3, hK3⟩; rw [hs, he2] at hs3; subst hs3; obtain ⟨a3, c3, rfl, -, -, hO3⟩ := hO3; obtain ⟨g3, f3, rfl, hg3, hc3⟩ := hO3 (by decide); replace hc3 : w3.cell? ⟨g3, f3, none⟩ = some (.int .i64 5) := hc3 0 (by decide); have HK3 := Lib.hid hK3; clear hR3 hfp3 hK3 hO3)
        go_ret
        refine ⟨rfl, ?_⟩
        have hB3 := HB.out.trans (HK3.out.below (fun k hk => Nat.le_trans hbase (I.lt HR.out k hk).1) HB.out.size)
        exact hB3.alloc hB3.size _
      · have hd' : (soloS L E1 0 k).2.2 = false := by simpa using hd
        have hnext : soloS L E1 0 (k + 1) = stpI L (soloS L E1 0 k).1 0 := by
          conv => lhs; unfold soloS
          rw [if_neg hd]
        have HS := Lib.hid (I.step hR (by omega) 0)
        rw [← hnext] at HS
        have HB := Lib.hid hBk
        have HR := Lib.hid hR
        rw [hd']
        clear hR hBk hnext hend hdone
        go_wp2_with (go_at_call 34; refine HS.out.mono ?_; rintro e w3 ⟨rfl, fp3, hR3, hfp3, hK3⟩; have HR3 := Lib.hid hR3; have HK3 := Lib.hid hK3; clear hR3 hfp3 hK3)
        go_roundw
        case rel => exact ⟨k + 1, fp3, by omega, by go_num, rfl, rfl, HR3.out, HB.out.trans (HK3.out.below (fun k hk => Nat.le_trans hbase (I.lt HR.out k hk).1) HB.out.size)⟩
        case measure => simp [intOf]; omega
    · have hk5 : k = 500 := by omega
      subst hk5
      rw [hdone]
      have hm1 : 500 + 1 < 1000000 := by omega
      obtain ⟨he1, he2, -, -, -⟩ := hend
      have HT := Lib.hid (I.state hR hm1)
      have HB := Lib.hid hBk
      have HR := Lib.hid hR
      rw [he1]
      clear hR hBk he1
      go_wp2_with (go_at_call 31; refine HT.out.mono ?_; rintro e w3 ⟨v3, s3, hs3, hl3, rfl, hO3, fp3, hR3, hfp3, hK3⟩; rw [hs, he2] at hs3; subst hs3; obtain ⟨a3, c3, rfl, -, -, hO3⟩ := hO3; obtain ⟨g3, f3, rfl, hg3, hc3⟩ := hO3 (by decide); replace hc3 : w3.cell? ⟨g3, f3, none⟩ = some (.int .i64 5) := hc3 0 (by decide); have HK3 := Lib.hid hK3; clear hR3 hfp3 hK3 hO3)
      go_ret
      refine ⟨rfl, ?_⟩
      have hB3 := HB.out.trans (HK3.out.below (fun k hk => Nat.le_trans hbase (I.lt HR.out k hk).1) HB.out.size)
      exact hB3.alloc hB3.size _
end Go.Proofs.Ytjfenjnnpikkdaa
