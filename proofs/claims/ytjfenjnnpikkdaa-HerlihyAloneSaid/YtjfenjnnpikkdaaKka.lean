/-
  What the statements of a layer's engine share: run.
-/
import Derived.Test.YtjfenjnnpikkdaaKd
import Derived.Test.YtjfenjnnpikkdaaKk
set_option linter.unusedVariables false
set_option linter.unusedSimpArgs false
namespace Go.Proofs.Ytjfenjnnpikkdaa
set_option maxRecDepth 100000
open Go.RowKit
open Go.Proofs.YtjfenjnnpikkdaaW.PrintLast

def hecallV (c : CallR) : List Value := [.int .i64 c.p, .int .i64 c.seq, .int .i64 c.frm, .int .i64 c.to, .int .i64 c.resp, .int .i64 c.op.code, .int .i64 c.op.a, .int .i64 c.op.b]
theorem heinfoCall : (Try.prog.info? 66).map (fun i => (i.zero, i.size, i.bytes)) = some (some (.agg #[.int .i64 0, .int .i64 0, .int .i64 0, .int .i64 0, .int .i64 0, .int .i64 0, .int .i64 0, .int .i64 0]), 8, 64) := by kernel_rfl
theorem hecalls_set : ∀ (l : List CallR) (o : Nat) (k n : Int), o < l.length → ((l.flatMap hecallV).set (o * 8 + 3) (.int .i64 k)).set (o * 8 + 4) (.int .i64 n) = (l.set o { l.getD o noCall with to := k, resp := n }).flatMap hecallV := by
  intro l
  induction l with
  | nil => intro o k n h; simp at h
  | cons a l ih =>
    intro o k n h
    rcases o with _ | o
    · simp [hecallV]
    · have := ih o k n (by simpa using h)
      rw [List.flatMap_cons, List.set_append_right _ _ (by simp [hecallV]; omega), List.set_append_right _ _ (by simp [hecallV]; omega)]
      rw [show (o + 1) * 8 + 3 - (hecallV a).length = o * 8 + 3 by simp [hecallV]; omega, show (o + 1) * 8 + 4 - (hecallV a).length = o * 8 + 4 by simp [hecallV]; omega, this]
      simp
theorem hecalls_at : ∀ (l : List CallR) (o : Nat), o < l.length → ∀ j, j < 8 → (l.flatMap hecallV)[o * 8 + j]? = (hecallV (l.getD o noCall))[j]? := by
  intro l
  induction l with
  | nil => intro o h; simp at h
  | cons a l ih =>
    intro o h j hj
    rcases o with _ | o
    · rw [List.flatMap_cons, List.getElem?_append_left (by simp [hecallV]; omega)]
      simp
    · rw [List.flatMap_cons, List.getElem?_append_right (by simp [hecallV]; omega)]
      rw [show (o + 1) * 8 + j - (hecallV a).length = o * 8 + j by simp [hecallV]; omega]
      simpa using ih o (by simpa using h) j hj
section
variable {σ : Type} {Rep : ERepT σ} {L : Lin σ}
/-- The memory of a history. -/
structure RunM (w : World) (n gm go : Nat) (calls : List CallR) (many opn : Nat → Nat) (vo : Value) (fpk : Nat → Prop) (wr : World) : Prop where
  out : Own wr 66 8 vo calls.length (calls.flatMap hecallV)
  outG : Fresh w.heap.size vo
  many : Own wr 3 1 (.slice (some ⟨gm, 0, none⟩) n n) n (rangeI n fun q => (many q : Int))
  opn : Own wr 3 1 (.slice (some ⟨go, 0, none⟩) n n) n (rangeI n fun q => (opn q : Int))
  gG : w.heap.size ≤ gm ∧ w.heap.size ≤ go ∧ gm ≠ go
  no : ¬ fpk gm ∧ ¬ fpk go ∧ ∀ j, vo.ownBlock = some j → ¬ fpk j
structure RunE (Rep : ERepT σ) (w : World) (base : Nat) (fp : Nat → Prop) (b m : Nat) (E : σ) (fpk : Nat → Prop) (wr : World) : Prop where
  rep : Rep wr base fpk b m E
  old : ∀ j, j < w.heap.size → (fpk j ↔ fp j)
  keeps : Keeps fp w wr
theorem RunE.post {w wr w' : World} {base b m m' : Nat} {fp fpk fp' : Nat → Prop} {E E' : σ} (h : RunE Rep w base fp b m E fpk wr) (hR : Rep w' base fp' b m' E') (ho : ∀ k, k < wr.heap.size → (fp' k ↔ fpk k)) (hK : Keeps fpk wr w') : RunE Rep w base fp b m' E' fp' w' :=
  ⟨hR, fun j hj => by rw [ho j (Nat.lt_of_lt_of_le hj h.keeps.size)]; exact h.old j hj, h.keeps.trans hK fun k hk => by
    by_cases c : k < w.heap.size
    · exact .inl ((h.old k c).1 hk)
    · exact .inr (by omega)⟩
/-- The program's own blocks are turned. -/
theorem RunE.mine {fI fS fB fL fT : FuncId} (I : EngIf Rep L fI fS fB fL fT) {w wr w' : World} {base b m : Nat} {fp fpk : Nat → Prop} {E : σ} (h : RunE Rep w base fp b m E fpk wr) (hbw : base ≤ w.heap.size) {F : Nat → Prop} (hK : Keeps F wr w') (hF : ∀ k, F k → ¬ fpk k ∧ w.heap.size ≤ k) : RunE Rep w base fp b m E fpk w' :=
  ⟨I.keeps h.rep hK (fun k hk => ⟨(hF k hk).1, Nat.le_trans hbw (hF k hk).2⟩), h.old, h.keeps.trans hK fun k hk => .inr (hF k hk).2⟩
theorem RunM.post {w wr w' : World} {n gm go : Nat} {calls : List CallR} {many opn : Nat → Nat} {vo : Value} {fpk fp' : Nat → Prop} (h : RunM w n gm go calls many opn vo fpk wr) (ho : ∀ k, k < wr.heap.size → (fp' k ↔ fpk k)) (hK : Keeps fpk wr w') : RunM w n gm go calls many opn vo fp' w' := by
  have l1 := own_lt h.many rfl
  have l2 := own_lt h.opn rfl
  refine ⟨own_keeps h.out hK h.no.2.2, h.outG, own_keeps h.many hK ?_, own_keeps h.opn hK ?_, h.gG, ?_, ?_, ?_⟩
  · intro q hq; simp only [Value.ownBlock, Option.some.injEq] at hq; subst hq; exact h.no.1
  · intro q hq; simp only [Value.ownBlock, Option.some.injEq] at hq; subst hq; exact h.no.2.1
  · rw [ho _ l1]; exact h.no.1
  · rw [ho _ l2]; exact h.no.2.1
  · intro j hj; rw [ho _ (own_lt h.out hj)]; exact h.no.2.2 j hj
theorem herangeI_const (n : Nat) (f : Nat → Int) (h : ∀ q, f q = 0) : rangeI n f = List.replicate n (.int .i64 0) := by
  apply List.ext_getElem?
  intro i
  by_cases hi : i < n
  · simp [ints, hi, h]
  · simp [ints, hi]
def RunP (Rep : ERepT σ) (w : World) (base : Nat) (fp : Nat → Prop) (b m : Nat) (R : RunS σ) (e : Ending) (w' : World) : Prop :=
  ∃ v fpk, e = .returned v ∧ RunE Rep w base fp b m R.E fpk w' ∧ Own w' 66 8 v R.calls.length (R.calls.flatMap hecallV) ∧ Fresh w.heap.size v ∧ (∀ j, v.ownBlock = some j → ¬ fpk j)
theorem herangeI_upd (n p : Nat) (f : Nat → Nat) (v : Nat) (hp : p < n) : (rangeI n fun q => (f q : Int)).set p (.int .i64 v) = rangeI n fun q => ((upd f p v q : Nat) : Int) := by
  rw [upd_cast]
  exact rangeI_set n p (fun q => (f q : Int)) v hp
theorem RunM.set {w w2 : World} {n gm go : Nat} {calls : List CallR} {many opn : Nat → Nat} {vo : Value} {fpk : Nat → Prop} (h : RunM w n gm go calls many opn vo fpk w2) {q : Nat} (hq : q < n) (x y : Nat) :
    RunM w n gm go calls (upd many q x) (upd opn q y) vo fpk ((w2.setCell ⟨gm, q, none⟩ (.int .i64 x)).setCell ⟨go, q, none⟩ (.int .i64 y)) := by
  have m1 := (World.ownsRow.stored h.many q (.int .i64 x)).1
  rw [herangeI_upd n q many x hq] at m1
  have k1 := Keeps.one w2 ⟨gm, q, none⟩ (.int .i64 (x : Int))
  have o1 := own_keeps h.opn k1 (fun j hj e => by simp only [Value.ownBlock, Option.some.injEq] at hj; have := h.gG.2.2; simp only at e; omega)
  have o2 := (World.ownsRow.stored o1 q (.int .i64 y)).1
  rw [herangeI_upd n q opn y hq] at o2
  have k2 := Keeps.one (w2.setCell ⟨gm, q, none⟩ (.int .i64 (x : Int))) ⟨go, q, none⟩ (.int .i64 (y : Int))
  have m2 := own_keeps m1 k2 (fun j hj e => by simp only [Value.ownBlock, Option.some.injEq] at hj; have := h.gG.2.2; simp only at e; omega)
  have t1 := own_keeps h.out k1 (fun j hj e => by simp only at e; subst e; exact own_type_ne h.out h.many (by decide) hj rfl)
  have t2 := own_keeps t1 k2 (fun j hj e => by simp only at e; subst e; exact own_type_ne h.out h.opn (by decide) hj rfl)
  exact ⟨t2, h.outG, m2, o2, h.gG, h.no⟩
theorem RunM.more {w w4 w5 : World} {n gm go : Nat} {calls : List CallR} {many opn : Nat → Nat} {vo v' : Value} {fpk : Nat → Prop} (h : RunM w n gm go calls many opn vo fpk w4) (c : CallR) (hO : Own w5 66 8 v' (calls.length + 1) (calls.flatMap hecallV ++ hecallV c)) (hg : w4.grownBy w5 vo.ownBlock) (hat : v'.ownBlock = vo.ownBlock ∨ v'.ownBlock = some w4.heap.size) (hlt : ∀ j, fpk j → j < w4.heap.size) (hw : w.heap.size ≤ w4.heap.size) :
    RunM w n gm go (calls ++ [c]) many opn v' fpk w5 := by
  have kk : Keeps (fun q => vo.ownBlock = some q) w4 w5 := (Keeps.refl _ w4).grown hg (fun k e => .inl e)
  refine ⟨by simpa [List.flatMap_append] using hO, ?_, own_keeps h.many kk (fun j hj e => own_type_ne h.many h.out (by decide) hj e), own_keeps h.opn kk (fun j hj e => own_type_ne h.opn h.out (by decide) hj e), h.gG, h.no.1, h.no.2.1, ?_⟩
  · intro j hj
    rcases hat with e | e <;> rw [e] at hj
    · exact h.outG j hj
    · injection hj with hj; omega
  · intro j hj hf
    rcases hat with e | e <;> rw [e] at hj
    · exact h.no.2.2 j hj hf
    · injection hj with hj; have := hlt j hf; omega
theorem RunM.fin {w w2 : World} {n gm go gc cc : Nat} {calls : List CallR} {many opn : Nat → Nat} {fpk : Nat → Prop} (h : RunM w n gm go calls many opn (.slice (some ⟨gc, 0, none⟩) calls.length cc) fpk w2) {o : Nat} (ho : o < calls.length) (k r : Int) :
    RunM w n gm go (calls.set o { calls.getD o noCall with to := k, resp := r }) many opn (.slice (some ⟨gc, 0, none⟩) calls.length cc) fpk ((w2.setCell ⟨gc, o * 8 + 3, none⟩ (.int .i64 k)).setCell ⟨gc, o * 8 + 4, none⟩ (.int .i64 r)) := by
  have t1 := (World.ownsRow.stored h.out (o * 8 + 3) (.int .i64 k)).1
  have t2 := (World.ownsRow.stored t1 (o * 8 + 4) (.int .i64 r)).1
  rw [hecalls_set _ _ _ _ ho] at t2
  have kk : Keeps (fun j => j = gc) w2 ((w2.setCell ⟨gc, o * 8 + 3, none⟩ (.int .i64 k)).setCell ⟨gc, o * 8 + 4, none⟩ (.int .i64 r)) := (((Keeps.refl (fun j => j = gc) w2).set gc _ (.inl rfl) _).set gc _ (.inl rfl) _)
  exact ⟨by simpa using t2, h.outG, own_keeps h.many kk (fun j hj e => by subst e; exact own_type_ne h.many h.out (by decide) hj rfl), own_keeps h.opn kk (fun j hj e => by subst e; exact own_type_ne h.opn h.out (by decide) hj rfl), h.gG, h.no⟩
theorem RunM.ext {w wr : World} {n gm go : Nat} {calls : List CallR} {many many' opn : Nat → Nat} {vo : Value} {fpk : Nat → Prop} (h : RunM w n gm go calls many opn vo fpk wr) (e : ∀ q, many' q = many q) : RunM w n gm go calls many' opn vo fpk wr := by
  have : many' = many := funext e
  rw [this]; exact h
set_option maxRecDepth 100000 in
set_option maxHeartbeats 6400000 in
theorem he_run (I : EngOfHe Rep L) {w : World} {base : Nat} {fp : Nat → Prop} {b m : Nat} {E0 : σ} (hR : Rep w base fp b m E0) (hz : ZeroIf L E0) (hbw : base ≤ w.heap.size) (a : Option Addr) (len cap : Nat) (f : Nat → Nat → Int)
    (hv : IsOps w a len f 5) (hab : 0 < len → ∀ ba oa, a = some ⟨ba, oa, none⟩ → ba < base) (hl : len ≤ 1500) (hm : m + len < 1000000) :
    Calls Try.prog 29 #[.pointer (some ⟨b, 0, none⟩), .int .i64 L.n, .slice a len cap] w (RunP Rep w base fp b (m + len) (runS L (evAt f) ⟨E0, [], fun _ => 0⟩ len)) := by
  have hn := I.small
  have hmk := run_make_row' (P := Try.prog) 22 3 (.int .i64 0) 8 Try.underlying22 infoInt rfl .i64 .i64 L.n (by omega) (by omega)
  have hfp : ∀ j, fp j → j < w.heap.size := fun j hj => (I.lt hR j hj).2
  have hzr : ∀ _ : Nat, List.replicate L.n (Value.int .i64 0) = rangeI L.n fun q => ((fun _ => 0 : Nat → Nat) q : Int) := fun _ => (herangeI_const L.n (fun _ => 0) (fun _ => rfl)).symm
  have hM0 : RunM w L.n w.heap.size (w.heap.size + 1) [] (fun _ => 0) (fun _ => 0) (.slice none 0 0) fp ((w.alloc (.cells (madeCells #[.int .i64 0] L.n) 3)).alloc (.cells (madeCells #[.int .i64 0] L.n) 3)) := by
    have o1 := own_made w 3 (.int .i64 0) L.n (by simp only [maxLen]; omega)
    have o2 := own_made (w.alloc (.cells (madeCells #[.int .i64 0] L.n) 3)) 3 (.int .i64 0) L.n (by simp only [maxLen]; omega)
    rw [hzr 0] at o1 o2
    rw [World.size_alloc] at o2
    exact ⟨World.ownsRow_nil .., fun k hk => by simp [Value.ownBlock] at hk, o1.alloc _, o2, ⟨Nat.le_refl _, by omega, by omega⟩, fun h => by have := hfp _ h; omega, fun h => by have := hfp _ h; omega, fun j hj => by simp [Value.ownBlock] at hj⟩
  have hE0 : RunE Rep w base fp b m E0 fp ((w.alloc (.cells (madeCells #[.int .i64 0] L.n) 3)).alloc (.cells (madeCells #[.int .i64 0] L.n) 3)) := by
    have k0 : Keeps (fun _ => False) w ((w.alloc (.cells (madeCells #[.int .i64 0] L.n) 3)).alloc (.cells (madeCells #[.int .i64 0] L.n) 3)) := ((Keeps.refl _ _).alloc _).alloc _
    exact ⟨I.keeps hR k0 (fun k h => h.elim), fun _ _ => Iff.rfl, k0.mono (fun k h => h.elim)⟩
  have HM0 := Lib.hid hM0
  have HE0 := Lib.hid hE0
  have HV := Lib.hid hv
  have HAB := Lib.hid hab
  have hfpb : ∀ j, fp j → base ≤ j := fun j hj => (I.lt hR j hj).1
  have HFP := Lib.hid hfp
  have HFPB := Lib.hid hfpb
  clear hM0 hE0 hv hab hzr hfp hfpb
  go_enter Try.func29, Try.ntmps29
  go_wp2_with fail
  go_loopw [7, 10] (fun vo iv wr => ∃ (k : Nat) (fpk : Nat → Prop), k ≤ len ∧ iv = .int .i64 k ∧ RunE Rep w base fp b (m + k) (runS L (evAt f) ⟨E0, [], fun _ => 0⟩ k).E fpk wr ∧
    RunM w L.n w.heap.size (w.heap.size + 1) (runS L (evAt f) ⟨E0, [], fun _ => 0⟩ k).calls (fun q => L.many (runS L (evAt f) ⟨E0, [], fun _ => 0⟩ k).E q) (runS L (evAt f) ⟨E0, [], fun _ => 0⟩ k).opn vo fpk wr) (fun _ iv _ => len - (intOf iv).toNat)
  case atStart =>
    refine ⟨0, fp, Nat.zero_le _, rfl, HE0.out, ?_⟩
    have h := HM0.out
    refine ⟨h.out, h.outG, ?_, h.opn, h.gG, h.no⟩
    have e : (rangeI L.n fun q => (L.many E0 q : Int)) = rangeI L.n fun q => ((fun _ => 0 : Nat → Nat) q : Int) := by
      unfold rangeI
      congr 1
      apply List.map_congr_left
      intro q hq
      rw [hz.many q (List.mem_range.1 hq)]
    show Own _ _ _ _ _ (rangeI L.n fun q => (L.many E0 q : Int))
    rw [e]
    exact h.many
  case round =>
    obtain ⟨k, fpk, hk, rfl, hE, hM⟩ := hrel
    clear HM0 HE0
    have hRI := hz.rinv.run (evAt f) k
    have hmany := fun q (hq : q < L.n) => (runS_E L (evAt f) ⟨E0, [], fun _ => 0⟩ k) ▸ (L.many_run (evAt f) hz.inv q k)
    have hcl := calls_run (L := L) (evAt f) ⟨E0, [], fun _ => 0⟩ k
    have hmq : ∀ q, q < L.n → L.many (runS L (evAt f) ⟨E0, [], fun _ => 0⟩ k).E q ≤ 1500 := fun q hq => by
      have h1 := hmany q hq
      have h2 := hz.many q hq
      rw [h2] at h1
      omega
    have hcl' : (runS L (evAt f) ⟨E0, [], fun _ => 0⟩ k).calls.length ≤ k := by simpa using hcl
    clear hmany hcl
    by_cases hkl : k < len
    · obtain ⟨ba, oa, rfl, hb, hcells⟩ := HV.out (by omega)
      have hbab : ba < base := HAB.out (by omega) ba oa rfl
      have hnb : ∀ {F : Nat → Prop}, (∀ j, F j → base ≤ j) → ¬ F ba := fun hF h => by have := hF ba h; omega
      have hev : runS L (evAt f) ⟨E0, [], fun _ => 0⟩ (k + 1) = evS L (runS L (evAt f) ⟨E0, [], fun _ => 0⟩ k) k ⟨f k 0, f k 1, ⟨f k 2, f k 3, f k 4⟩⟩ := rfl
      have hc0 : ∀ j, j < 5 → wr.cell? ⟨ba, oa + k * 5 + j, none⟩ = some (.int .i64 (f k j)) := fun j hj => hE.keeps.cellSome (hnb HFPB.out) (hcells k j hkl hj)
      have e0 := hc0 0 (by decide)
      have e1 := hc0 1 (by decide)
      have e2 := hc0 2 (by decide)
      have e3 := hc0 3 (by decide)
      have e4 := hc0 4 (by decide)
      rw [Nat.add_zero] at e0
      have hbawr : ba < wr.heap.size := Nat.lt_of_lt_of_le hb hE.keeps.size
      generalize runS L (evAt f) ⟨E0, [], fun _ => 0⟩ k = R at *
      generalize f k 0 = kd at *
      generalize f k 1 = pp at *
      generalize f k 2 = oc at *
      generalize f k 3 = ox at *
      generalize f k 4 = oy at *
      have i1 : (0 : Int) ≤ (k : Int) := by omega
      have i2 : (k : Int) < (len : Int) := by omega
      have d0 : decide ((k : Int) < len) = true := decide_eq_true i2
      have i64k : IntKind.i64.wrap ((k : Int) + 1) = (k : Int) + 1 := IntWalk.i64_in _ (by omega)
      have HEV := Lib.hid hev
      have HE := Lib.hid hE
      have HM := Lib.hid hM
      have HRI := Lib.hid hRI
      have HMQ := Lib.hid hmq
      clear hev hE hM hRI hmq hc0 hcells
      have hsame : evS L R k ⟨kd, pp, ⟨oc, ox, oy⟩⟩ = R → (RunE Rep w base fp b (m + (k + 1)) (runS L (evAt f) ⟨E0, [], fun _ => 0⟩ (k + 1)).E fpk wr ∧ RunM w L.n w.heap.size (w.heap.size + 1) (runS L (evAt f) ⟨E0, [], fun _ => 0⟩ (k + 1)).calls (fun q => L.many (runS L (evAt f) ⟨E0, [], fun _ => 0⟩ (k + 1)).E q) (runS L (evAt f) ⟨E0, [], fun _ => 0⟩ (k + 1)).opn u7 fpk wr) := fun h => by
        rw [HEV.out, h]
        exact ⟨⟨I.mono HE.out.rep (by omega), HE.out.old, HE.out.keeps⟩, HM.out⟩
      have HSM := Lib.hid hsame
      clear hsame
      by_cases hp0 : pp < 0
      · have d1 : decide (pp < 0) = true := decide_eq_true hp0
        go_wp2_with fail
        go_roundw
        case rel => exact ⟨k + 1, fpk, by omega, by go_num, HSM.out (by unfold evS; rw [if_neg (fun h => by have := h.1; simp only at this; omega)])⟩
        case measure => simp [intOf]; omega
      · have d1 : decide (pp < 0) = false := decide_eq_false hp0
        by_cases hpn : (L.n : Int) ≤ pp
        · have d2 : decide ((L.n : Int) ≤ pp) = true := decide_eq_true hpn
          go_wp2_with fail
          go_roundw
          case rel => exact ⟨k + 1, fpk, by omega, by go_num, HSM.out (by unfold evS; rw [if_neg (fun h => by have := h.2; simp only at this; omega)])⟩
          case measure => simp [intOf]; omega
        · have d2 : decide ((L.n : Int) ≤ pp) = false := decide_eq_false hpn
          obtain ⟨q, rfl⟩ := Int.eq_ofNat_of_zero_le (show 0 ≤ pp by omega)
          have hq : q < L.n := by omega
          have hqr : (0 : Int) ≤ (q : Int) ∧ (q : Int) < L.n := ⟨by omega, by omega⟩
          have hin : (0 : Int) ≤ (⟨kd, (q : Int), ⟨oc, ox, oy⟩⟩ : EvR).p ∧ (⟨kd, (q : Int), ⟨oc, ox, oy⟩⟩ : EvR).p < L.n := hqr
          by_cases hk0 : kd = 0
          · subst hk0
            have HI := Lib.hid (I.invoke HE.out.rep (by omega) (q : Int) ⟨oc, ox, oy⟩)
            by_cases hc : codeI L R.E (q : Int) ⟨oc, ox, oy⟩ = 0
            · have hi : invI L R.E (q : Int) ⟨oc, ox, oy⟩ = L.invoke R.E q ⟨oc, ox, oy⟩ := by unfold invI; rw [if_pos hc]; rfl
              have hc' := (codeI_zero L _ _ _).1 hc
              rw [Int.toNat_natCast] at hc'
              rw [hc, hi] at HI
              have HC := Lib.hid hc'
              have HC0 := Lib.hid hc
              clear hc hc' hi
              have hmb := HMQ.out q hq
              have hcl2 : R.calls.length ≤ 1500 := by omega
              have i64m : IntKind.i64.wrap ((L.many R.E q : Int) + 1) = (L.many R.E q : Int) + 1 := IntWalk.i64_in _ (by omega)
              obtain ⟨ao, co, evo⟩ := own_shape HM.out.out
              subst evo
              go_wp2_with (go_at_call 33; refine HI.out.mono ?_; rintro e w2 ⟨rfl, fp2, hR2, hfp2, hK2⟩; have hE2 := (HE.out.post hR2 hfp2 hK2); have hM2 := (HM.out.post hfp2 hK2); have e0 : w2.cell? ⟨ba, oa + k * 5, none⟩ = some (.int .i64 0) := hK2.cellSome (hnb (fun j hj => (I.lt HE.out.rep j hj).1)) e0; have e2 : w2.cell? ⟨ba, oa + k * 5 + 2, none⟩ = some (.int .i64 oc) := hK2.cellSome (hnb (fun j hj => (I.lt HE.out.rep j hj).1)) e2; have e3 : w2.cell? ⟨ba, oa + k * 5 + 3, none⟩ = some (.int .i64 ox) := hK2.cellSome (hnb (fun j hj => (I.lt HE.out.rep j hj).1)) e3; have e4 : w2.cell? ⟨ba, oa + k * 5 + 4, none⟩ = some (.int .i64 oy) := hK2.cellSome (hnb (fun j hj => (I.lt HE.out.rep j hj).1)) e4; have gq : w2.cell? ⟨w.heap.size, q, none⟩ = some (.int .i64 (L.many R.E q)) := (by rw [World.ownsRow.cellAt hM2.many q (by omega), ints_get _ _ (by simpa using hq)]; simp [hq]); have gf : w2.frozen? ⟨w.heap.size, q, none⟩ = false := World.ownsRow.frozenAt hM2.many q; have oq : w2.cell? ⟨w.heap.size + 1, q, none⟩ = some (.int .i64 (R.opn q)) := (by rw [World.ownsRow.cellAt hM2.opn q (by omega), ints_get _ _ (by simpa using hq)]; simp [hq]); have of : w2.frozen? ⟨w.heap.size + 1, q, none⟩ = false := World.ownsRow.frozenAt hM2.opn q; have HE2 := Lib.hid hE2; have HM2 := Lib.hid hM2; clear hR2 hfp2 hK2 hE2 hM2)
              have hM4 : RunM w L.n w.heap.size (w.heap.size + 1) R.calls (upd (fun q => L.many R.E q) q (L.many R.E q + 1)) (upd R.opn q R.calls.length) (.slice ao R.calls.length co) fp2 ((w2.setCell ⟨w.heap.size, q, none⟩ (.int .i64 ((L.many R.E q : Int) + 1))).setCell ⟨w.heap.size + 1, q, none⟩ (.int .i64 R.calls.length)) := HM2.out.set hq (L.many R.E q + 1) R.calls.length
              have k24 : Keeps (fun j => j = w.heap.size ∨ j = w.heap.size + 1) w2 ((w2.setCell ⟨w.heap.size, q, none⟩ (.int .i64 ((L.many R.E q : Int) + 1))).setCell ⟨w.heap.size + 1, q, none⟩ (.int .i64 R.calls.length)) := (((Keeps.refl (fun j => j = w.heap.size ∨ j = w.heap.size + 1) w2).set _ _ (.inl (.inl rfl)) _).set _ _ (.inl (.inr rfl)) _)
              have hE4 := HE2.out.mine I hbw k24 (fun j hj => by
                rcases hj with e | e
                · subst e; exact ⟨HM2.out.no.1, Nat.le_refl _⟩
                · subst e; exact ⟨HM2.out.no.2.1, by omega⟩)
              have hb4 : ¬ (ba = w.heap.size ∨ ba = w.heap.size + 1) := by omega
              have e2 := k24.cellSome (p := ⟨ba, oa + k * 5 + 2, none⟩) hb4 e2
              have e3 := k24.cellSome (p := ⟨ba, oa + k * 5 + 3, none⟩) hb4 e3
              have e4 := k24.cellSome (p := ⟨ba, oa + k * 5 + 4, none⟩) hb4 e4
              have e0 := k24.cellSome (p := ⟨ba, oa + k * 5, none⟩) hb4 e0
              have gq : ((w2.setCell ⟨w.heap.size, q, none⟩ (.int .i64 ((L.many R.E q : Int) + 1))).setCell ⟨w.heap.size + 1, q, none⟩ (.int .i64 R.calls.length)).cell? ⟨w.heap.size, q, none⟩ = some (.int .i64 ((L.many R.E q : Int) + 1)) := by
                rw [World.ownsRow.cellAt hM4.many q (by omega), ints_get _ _ (by simpa using hq)]; simp [hq, upd_same]
              have hww : w.heap.size ≤ ((w2.setCell ⟨w.heap.size, q, none⟩ (.int .i64 ((L.many R.E q : Int) + 1))).setCell ⟨w.heap.size + 1, q, none⟩ (.int .i64 R.calls.length)).heap.size := hE4.keeps.size
              clear oq of gf HE2 HM2 k24
              generalize ((w2.setCell ⟨w.heap.size, q, none⟩ (.int .i64 ((L.many R.E q : Int) + 1))).setCell ⟨w.heap.size + 1, q, none⟩ (.int .i64 R.calls.length)) = w4 at *
              have K4 : Keeps (fun _ => False) w4 w4.drew := (Keeps.refl _ _).drew
              have HM4 := Lib.hid hM4
              have HE4 := Lib.hid hE4
              have HO4 := Lib.hid (own_drew hM4.out)
              have HG := Lib.hid (own_lt hM4.many rfl)
              clear hM4 hE4
              refine start_ (n := 16) (S := fun w' => w'.cell? ⟨w.heap.size, q, none⟩ = some (.int .i64 ((L.many R.E q : Int) + 1)) ∧ w'.cell? ⟨ba, oa + k * 5 + 2, none⟩ = some (.int .i64 oc) ∧ w'.cell? ⟨ba, oa + k * 5 + 3, none⟩ = some (.int .i64 ox) ∧ w'.cell? ⟨ba, oa + k * 5 + 4, none⟩ = some (.int .i64 oy)) (ds := [14]) #[false, false, false, false, false, false, false, false, false, false, false, false, false, false, false, false] (by kernel_rfl) rfl rfl ⟨gq, e2, e3, e4⟩ (fun hHeld => ?_)
              refine pure_ (i := 0) (N := some 64) (v := ?_) (a' := ?_) #[true, false, false, false, false, false, false, false, false, false, false, false, false, false, false, false] rfl rfl (by kernel_rfl) (fun _ _ _ h => h) (Or.inl ⟨by rfl, ?_⟩) ?_ ?_
              rotate_left
              · intro w'
                go_simp
                with_reducible rfl
              rotate_left
              · simp only [Act.put, nA, nB, nC, i64_w, i32_w]
                rfl
              refine pure_ (i := 1) (N := some 65) (v := ?_) (a' := ?_) #[true, true, false, false, false, false, false, false, false, false, false, false, false, false, false, false] rfl rfl (by kernel_rfl) (fun _ _ _ h => h) (Or.inl ⟨by rfl, ?_⟩) ?_ ?_
              rotate_left
              · intro w'
                go_simp
                with_reducible rfl
              rotate_left
              · simp only [Act.put, nA, nB, nC, i64_w, i32_w]
                rfl
              refine pure_ (i := 2) (N := some 66) (v := ?_) (a' := ?_) #[true, true, true, false, false, false, false, false, false, false, false, false, false, false, false, false] rfl rfl (by kernel_rfl) (fun _ _ _ h => h) (Or.inl ⟨by rfl, ?_⟩) ?_ ?_
              rotate_left
              · intro w'
                go_simp
                with_reducible rfl
              rotate_left
              · simp only [Act.put, nA, nB, nC, i64_w, i32_w]
                rfl
              refine pure_ (i := 3) (N := some 67) (v := ?_) (a' := ?_) #[true, true, true, true, false, false, false, false, false, false, false, false, false, false, false, false] rfl rfl (by kernel_rfl) (fun _ _ _ h => h) (Or.inl ⟨by rfl, ?_⟩) ?_ ?_
              rotate_left
              · intro w'
                go_simp
                with_reducible rfl
              rotate_left
              · simp only [Act.put, nA, nB, nC, i64_w, i32_w]
                rfl
              refine pure_ (i := 4) (N := some 68) (v := ?_) (a' := ?_) #[true, true, true, true, true, false, false, false, false, false, false, false, false, false, false, false] rfl rfl (by kernel_rfl) (fun _ _ _ h => h) (Or.inl ⟨by rfl, ?_⟩) ?_ ?_
              rotate_left
              · intro w'
                go_simp
                with_reducible rfl
              rotate_left
              · simp only [Act.put, nA, nB, nC, i64_w, i32_w]
                rfl
              refine pure_ (i := 6) (N := some 70) (v := ?_) (a' := ?_) #[true, true, true, true, true, false, true, false, false, false, false, false, false, false, false, false] rfl rfl (by kernel_rfl) (fun _ _ _ h => h) (Or.inl ⟨by rfl, ?_⟩) ?_ ?_
              rotate_left
              · intro w'
                go_simp
                with_reducible rfl
              rotate_left
              · simp only [Act.put, nA, nB, nC, i64_w, i32_w]
                rfl
              refine pure_ (i := 7) (N := some 71) (v := ?_) (a' := ?_) #[true, true, true, true, true, false, true, true, false, false, false, false, false, false, false, false] rfl rfl (by kernel_rfl) (fun _ _ _ h => h) (Or.inl ⟨by rfl, ?_⟩) ?_ ?_
              rotate_left
              · intro w'
                go_simp
                with_reducible rfl
              rotate_left
              · simp only [Act.put, nA, nB, nC, i64_w, i32_w]
                rfl
              refine pure_ (i := 8) (N := some 72) (v := ?_) (a' := ?_) #[true, true, true, true, true, false, true, true, true, false, false, false, false, false, false, false] rfl rfl (by kernel_rfl) (fun _ _ _ h => h) (Or.inl ⟨by rfl, ?_⟩) ?_ ?_
              rotate_left
              · intro w'
                go_simp
                with_reducible rfl
              rotate_left
              · simp only [Act.put, nA, nB, nC, i64_w, i32_w]
                rfl
              refine pure_ (i := 9) (N := some 73) (v := ?_) (a' := ?_) #[true, true, true, true, true, false, true, true, true, true, false, false, false, false, false, false] rfl rfl (by kernel_rfl) (fun _ _ _ h => h) (Or.inl ⟨by rfl, ?_⟩) ?_ ?_
              rotate_left
              · intro w'
                go_simp
                with_reducible rfl
              rotate_left
              · simp only [Act.put, nA, nB, nC, i64_w, i32_w]
                rfl
              refine pure_ (i := 10) (N := some 74) (v := ?_) (a' := ?_) #[true, true, true, true, true, false, true, true, true, true, true, false, false, false, false, false] rfl rfl (by kernel_rfl) (fun _ _ _ h => h) (Or.inl ⟨by rfl, ?_⟩) ?_ ?_
              rotate_left
              · intro w'
                go_simp
                with_reducible rfl
              rotate_left
              · simp only [Act.put, nA, nB, nC, i64_w, i32_w]
                rfl
              refine take_ (i := 5) (N := some 69) (v := ?_) (a' := ?_) #[true, true, true, true, true, true, true, true, true, true, true, false, false, false, false, false] rfl rfl (by kernel_rfl) (fun _ _ _ h => h) (Or.inl ⟨by rfl, ?_⟩) hHeld ?_ ?_
              rotate_left
              · rintro w' ⟨s0, s1, s2, s3⟩
                go_simp
                with_reducible rfl
              rotate_left
              · simp only [Act.put, nA, nB, nC, i64_w, i32_w]
                rfl
              refine take_ (i := 11) (N := some 75) (v := ?_) (a' := ?_) #[true, true, true, true, true, true, true, true, true, true, true, true, false, false, false, false] rfl rfl (by kernel_rfl) (fun _ _ _ h => h) (Or.inl ⟨by rfl, ?_⟩) hHeld ?_ ?_
              rotate_left
              · rintro w' ⟨s0, s1, s2, s3⟩
                go_simp
                with_reducible rfl
              rotate_left
              · simp only [Act.put, nA, nB, nC, i64_w, i32_w]
                rfl
              refine pure_ (i := 12) (N := some 76) (v := ?_) (a' := ?_) #[true, true, true, true, true, true, true, true, true, true, true, true, true, false, false, false] rfl rfl (by kernel_rfl) (fun _ _ _ h => h) (Or.inl ⟨by rfl, ?_⟩) ?_ ?_
              rotate_left
              · intro w'
                go_simp
                with_reducible rfl
              rotate_left
              · simp only [Act.put, nA, nB, nC, i64_w, i32_w]
                rfl
              refine one_ (i := 13) (N := some 77) #[true, true, true, true, true, true, true, true, true, true, true, true, true, true, false, false] rfl rfl (by kernel_rfl) (by decide) (fun K hK => ?_)
              refine value_ (w1 := ?_) (v := ?_) (by rfl) rfl ?_ ?_
              rotate_left 2
              · go_simp
                constructor
                · rfl
                · rfl
              try clear hHeld
              refine hK.out _ _ ⟨((K4.alloc (.cells #[.int .i64 q, .int .i64 ((L.many R.E q : Int) + 1), .int .i64 k, .int .i64 (-1), .int .i64 0, .int .i64 oc, .int .i64 ox, .int .i64 oy] 66)).cellSome (fun h => h) gq), ((K4.alloc (.cells #[.int .i64 q, .int .i64 ((L.many R.E q : Int) + 1), .int .i64 k, .int .i64 (-1), .int .i64 0, .int .i64 oc, .int .i64 ox, .int .i64 oy] 66)).cellSome (fun h => h) e2), ((K4.alloc (.cells #[.int .i64 q, .int .i64 ((L.many R.E q : Int) + 1), .int .i64 k, .int .i64 (-1), .int .i64 0, .int .i64 oc, .int .i64 ox, .int .i64 oy] 66)).cellSome (fun h => h) e3), ((K4.alloc (.cells #[.int .i64 q, .int .i64 ((L.many R.E q : Int) + 1), .int .i64 k, .int .i64 (-1), .int .i64 0, .int .i64 oc, .int .i64 ox, .int .i64 oy] 66)).cellSome (fun h => h) e4)⟩ (fun hHeld => ?_)
              clear hK K
              refine norm_ (a' := ?_) ?_ ?_
              rotate_left
              · show Act.put _ (some 77) _ = _
                simp only [Act.put, nA, nB, nC, i64_w, i32_w]
                rfl
              refine last_ (i := 14) (N := some 78) #[true, true, true, true, true, true, true, true, true, true, true, true, true, true, true, false] rfl rfl (by kernel_rfl) (by decide) (fun K hK => ?_)
              refine append_own_ rfl rfl _ _ 62 rfl 66 (.agg #[.int .i64 0, .int .i64 0, .int .i64 0, .int .i64 0, .int .i64 0, .int .i64 0, .int .i64 0, .int .i64 0]) 8 64 Try.underlying62 heinfoCall rfl (by decide) (.slice ao R.calls.length co) R.calls.length (R.calls.flatMap hecallV) rfl (HO4.out.alloc (.cells #[.int .i64 q, .int .i64 ((L.many R.E q : Int) + 1), .int .i64 k, .int .i64 (-1), .int .i64 0, .int .i64 oc, .int .i64 ox, .int .i64 oy] 66)) ⟨w4.heap.size, 0, none⟩ 1 1 (hecallV ⟨q, L.many R.E q + 1, k, -1, 0, ⟨oc, ox, oy⟩⟩) rfl rfl (cells_new w4.drew (hecallV ⟨q, L.many R.E q + 1, k, -1, 0, ⟨oc, ox, oy⟩⟩) 66) (by intro u hu; simp [hecallV] at hu; rcases hu with rfl | rfl | rfl | rfl | rfl | rfl | rfl | rfl <;> rfl) (by omega) (by decide) ?_
              rintro v5 w5 hO5 hg5 hat5
              obtain ⟨a5, c5, rfl⟩ := own_shape hO5
              try clear hHeld
              refine hK.out _ _ ?_
              clear hK K
              refine norm_ (a' := ?_) ?_ ?_
              rotate_left
              · show Act.put _ (some 78) _ = _
                simp only [Act.put, nA, nB, nC, i64_w, i32_w]
                rfl
              refine pure_ (i := 15) (N := some 7) (v := ?_) (a' := ?_) #[true, true, true, true, true, true, true, true, true, true, true, true, true, true, true, true] rfl rfl (by kernel_rfl) (fun _ _ _ h => h) (Or.inl ⟨by rfl, ?_⟩) ?_ ?_
              rotate_left
              · intro w'
                go_simp
                with_reducible rfl
              rotate_left
              · simp only [Act.put, nA, nB, nC, i64_w, i32_w]
                rfl
              try clear hHeld
              refine done_ (by kernel_rfl) ?_
              have hfin := RunM.more (HM4.out.post (fun _ _ => Iff.rfl) (K4.alloc (.cells #[.int .i64 q, .int .i64 ((L.many R.E q : Int) + 1), .int .i64 k, .int .i64 (-1), .int .i64 0, .int .i64 oc, .int .i64 ox, .int .i64 oy] 66) |>.mono (fun _ h => h.elim))) ⟨q, L.many R.E q + 1, k, -1, 0, ⟨oc, ox, oy⟩⟩ hO5 hg5 hat5 (fun j hj => by have := (I.lt HE4.out.rep j hj).2; have h5 : w4.drew.heap.size = w4.heap.size := rfl; simp; omega) (by have := HG.out; have h5 : w4.drew.heap.size = w4.heap.size := rfl; simp; omega)
              have k5 : Keeps (fun j => (Value.slice ao R.calls.length co).ownBlock = some j) w4 w5 := (K4.alloc (.cells #[.int .i64 q, .int .i64 ((L.many R.E q : Int) + 1), .int .i64 k, .int .i64 (-1), .int .i64 0, .int .i64 oc, .int .i64 ox, .int .i64 oy] 66) |>.mono (fun _ h => h.elim)).grown hg5 (fun j e => .inl e)
              have hE5 := HE4.out.mine I hbw k5 (fun j hj => ⟨HM4.out.no.2.2 j hj, HM4.out.outG j hj⟩)
              have e05 : w5.cell? ⟨ba, oa + k * 5, none⟩ = some (.int .i64 0) := k5.cellSome (p := ⟨ba, oa + k * 5, none⟩) (fun hf => by have := HM4.out.outG ba hf; omega) e0
              have hs : evS L R k ⟨0, (q : Int), ⟨oc, ox, oy⟩⟩ = R.begun L q ⟨oc, ox, oy⟩ k := by unfold evS; rw [if_pos hin, if_pos rfl, if_pos HC0.out]; rfl
              have hmq2 : ∀ j, L.many (L.invoke R.E q ⟨oc, ox, oy⟩) j = upd (fun q => L.many R.E q) q (L.many R.E q + 1) j := fun j => by
                rw [L.many_invoke R.E q ⟨oc, ox, oy⟩ HRI.out.inv hq HC.out.2.2.2]
                by_cases e : j = q
                · subst e; rw [if_pos rfl, upd_same]
                · rw [if_neg e, upd_ne _ _ e]; rfl
              have HFIN := Lib.hid hfin
              have HE5 := Lib.hid hE5
              have HS := Lib.hid hs
              have HMQ2 := Lib.hid hmq2
              clear hfin hE5 hs hmq2 e0 e2 e3 e4 gq hO5 hg5 hat5 K4 k5
              go_wp2_with fail
              go_roundw
              case rel => exact ⟨k + 1, fp2, by omega, by go_num, by rw [HEV.out, HS.out]; exact HE5.out, by rw [HEV.out, HS.out]; exact by simpa [RunS.begun] using HFIN.out.ext HMQ2.out⟩
              case measure => simp [intOf]; omega
            · have hi : invI L R.E (q : Int) ⟨oc, ox, oy⟩ = R.E := by unfold invI; rw [if_neg hc]
              rw [hi] at HI
              have hcb : (codeI L R.E (q : Int) ⟨oc, ox, oy⟩ == 0) = false := by simpa using hc
              have hs : evS L R k ⟨0, (q : Int), ⟨oc, ox, oy⟩⟩ = R := by unfold evS; rw [if_pos hin, if_pos rfl, if_neg hc]
              have HS := Lib.hid hs
              clear hc hi hs HSM
              generalize codeI L R.E (q : Int) ⟨oc, ox, oy⟩ = cv at *
              go_wp2_with (go_at_call 33; refine HI.out.mono ?_; rintro e w2 ⟨rfl, fp2, hR2, hfp2, hK2⟩; have hE2 := Lib.hid (HE.out.post hR2 hfp2 hK2); have hM2 := Lib.hid (HM.out.post hfp2 hK2); have e0 : w2.cell? ⟨ba, oa + k * 5, none⟩ = some (.int .i64 0) := hK2.cellSome (hnb (fun j hj => (I.lt HE.out.rep j hj).1)) e0; clear hR2 hfp2 hK2)
              go_roundw
              case rel => exact ⟨k + 1, fp2, by omega, by go_num, by rw [HEV.out, HS.out]; exact hE2.out, by rw [HEV.out, HS.out]; exact hM2.out⟩
              case measure => simp [intOf]; omega
          · have hk0b : (kd == 0) = false := by simpa using hk0
            by_cases hk1 : kd = 1
            · subst hk1
              have HI := Lib.hid (I.step HE.out.rep (by omega) (q : Int))
              by_cases hd : (stpI L R.E (q : Int)).2.2 = true
              · have hs : evS L R k ⟨1, (q : Int), ⟨oc, ox, oy⟩⟩ = R.ended q k (stpI L R.E (q : Int)).1 (stpI L R.E (q : Int)).2.1 := by unfold evS; rw [if_pos hin, if_neg hk0, if_pos rfl, if_pos hd]; rfl
                rw [hd] at HI
                have hbz : L.busy R.E q = true := by
                  by_cases hbz : L.busy R.E q = true
                  · exact hbz
                  · rw [stpI_neg L _ _ (fun h => hbz (by simpa using h.2.2))] at hd; simp at hd
                have hmm : ∀ j, L.many (stpI L R.E (q : Int)).1 j = L.many R.E j := fun j => by
                  rw [stpI_pos L _ _ ⟨hqr.1, hqr.2, by simpa using hbz⟩]; exact L.many_step _ _ HRI.out.inv (by omega) (by simpa using hbz) j
                obtain ⟨hol, -⟩ := HRI.out.opn q hq hbz
                obtain ⟨gc, cc, evo, -⟩ := own_open HM.out.out (by omega)
                subst evo
                have HS := Lib.hid hs
                have HMM := Lib.hid hmm
                have o1 : (0 : Int) ≤ (R.opn q : Int) := by omega
                have o2 : (R.opn q : Int) < (R.calls.length : Int) := by omega
                have ngo : gc ≠ w.heap.size + 1 := fun e => own_type_ne HM.out.out HM.out.opn (by decide) rfl (congrArg some e.symm)
                clear hs hd hmm HSM hbz
                generalize stpI L R.E (q : Int) = t at *
                go_wp2_with (go_at_call 34; refine HI.out.mono ?_; rintro e w2 ⟨rfl, fp2, hR2, hfp2, hK2⟩; have hE2 := (HE.out.post hR2 hfp2 hK2); have hM2 := (HM.out.post hfp2 hK2); have oq : w2.cell? ⟨w.heap.size + 1, q, none⟩ = some (.int .i64 (R.opn q)) := (by rw [World.ownsRow.cellAt hM2.opn q (by omega), ints_get _ _ (by simpa using hq)]; simp [hq]); have c3 : w2.cell? ⟨gc, R.opn q * 8 + 3, none⟩ = some (.int .i64 (R.cat (R.opn q)).to) := (World.ownsRow.cellAt hM2.out (R.opn q * 8 + 3) (by omega)).trans (hecalls_at _ _ hol 3 (by decide)); have c4 : w2.cell? ⟨gc, R.opn q * 8 + 4, none⟩ = some (.int .i64 (R.cat (R.opn q)).resp) := (World.ownsRow.cellAt hM2.out (R.opn q * 8 + 4) (by omega)).trans (hecalls_at _ _ hol 4 (by decide)); have f3 : w2.frozen? ⟨gc, R.opn q * 8 + 3, none⟩ = false := World.ownsRow.frozenAt hM2.out _; have f4 : w2.frozen? ⟨gc, R.opn q * 8 + 4, none⟩ = false := World.ownsRow.frozenAt hM2.out _; have HE2 := Lib.hid hE2; have HM2 := Lib.hid hM2; clear hR2 hfp2 hK2 hE2 hM2)
                go_roundw
                case rel =>
                  have hm := HM2.out.fin hol k t.2.1
                  have kk : Keeps (fun j => j = gc) w2 ((w2.setCell ⟨gc, R.opn q * 8 + 3, none⟩ (.int .i64 k)).setCell ⟨gc, R.opn q * 8 + 4, none⟩ (.int .i64 t.2.1)) := (((Keeps.refl (fun j => j = gc) w2).set gc _ (.inl rfl) _).set gc _ (.inl rfl) _)
                  have he := HE2.out.mine I hbw kk (fun j hj => by subst hj; exact ⟨HM2.out.no.2.2 _ rfl, HM2.out.outG _ rfl⟩)
                  exact ⟨k + 1, fp2, by omega, by go_num, by rw [HEV.out, HS.out]; exact he, by rw [HEV.out, HS.out]; exact hm.ext HMM.out⟩
                case measure => simp [intOf]; omega
              · have hs : evS L R k ⟨1, (q : Int), ⟨oc, ox, oy⟩⟩ = { R with E := (stpI L R.E (q : Int)).1 } := by unfold evS; rw [if_pos hin, if_neg hk0, if_pos rfl, if_neg hd]
                have hd' : (stpI L R.E (q : Int)).2.2 = false := by simpa using hd
                have hmm : ∀ j, L.many (stpI L R.E (q : Int)).1 j = L.many R.E j := fun j => by
                  by_cases hbz : L.busy R.E q = true
                  · rw [stpI_pos L _ _ ⟨hqr.1, hqr.2, by simpa using hbz⟩]; exact L.many_step _ _ HRI.out.inv (by omega) (by simpa using hbz) j
                  · rw [stpI_neg L _ _ (fun h => hbz (by simpa using h.2.2))]
                rw [hd'] at HI
                have HS := Lib.hid hs
                have HMM := Lib.hid hmm
                clear hs hd hd' hmm HSM
                generalize stpI L R.E (q : Int) = t at *
                go_wp2_with (go_at_call 34; refine HI.out.mono ?_; rintro e w2 ⟨rfl, fp2, hR2, hfp2, hK2⟩; have hE2 := Lib.hid (HE.out.post hR2 hfp2 hK2); have hM2 := Lib.hid (HM.out.post hfp2 hK2); clear hR2 hfp2 hK2)
                go_roundw
                case rel => exact ⟨k + 1, fp2, by omega, by go_num, by rw [HEV.out, HS.out]; exact hE2.out, by rw [HEV.out, HS.out]; exact hM2.out.ext HMM.out⟩
                case measure => simp [intOf]; omega
            · have hk1b : (kd == 1) = false := by simpa using hk1
              go_wp2_with fail
              go_roundw
              case rel => exact ⟨k + 1, fpk, by omega, by go_num, HSM.out (by unfold evS; rw [if_pos hin, if_neg hk0, if_neg hk1])⟩
              case measure => simp [intOf]; omega
    · have hkl2 : k = len := by omega
      subst hkl2
      have d0 : decide ((k : Int) < k) = false := decide_eq_false (by omega)
      have HE := Lib.hid hE
      have HM := Lib.hid hM
      clear hE hM hRI hmq
      go_wp2_with fail
      go_ret
      exact ⟨_, fpk, rfl, HE.out, HM.out.out, HM.out.outG, HM.out.no.2.2⟩
end
end Go.Proofs.Ytjfenjnnpikkdaa
