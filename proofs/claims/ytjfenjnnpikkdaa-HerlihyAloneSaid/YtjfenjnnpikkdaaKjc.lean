/-
  Package herlihy: State.
-/
import Derived.Test.YtjfenjnnpikkdaaKd
import Derived.Test.YtjfenjnnpikkdaaKjb
set_option linter.unusedVariables false
set_option linter.unusedSimpArgs false
namespace Go.Proofs.Ytjfenjnnpikkdaa
set_option maxRecDepth 100000
open Go.RowKit
open Go.Proofs.YtjfenjnnpikkdaaW.PrintLast

/-- State while it goes on. -/
structure SMid (w wr : World) (base be n : Nat) (R : HRef) (s : St) (H : HS) (gz gs : Nat) (S : St) (vl vg : Value) (l : List Rec) (st : List Int) : Prop where
  own0 : ∀ q, w.heap.size ≤ q → R.own q = none ∧ base ≤ q
  machT : ∀ q, machF R.bm R.vc R.vs q → q < w.heap.size
  rep : HRep wr base be { R with steps := st } n s H
  keeps : Keeps (machF R.bm R.vc R.vs) w wr
  zero : Blk wr gz #[.int .i64 0, .slice none 0 0, .bool false, .int .i64 0] 24
  gzG : w.heap.size ≤ gz
  box : Blk wr gs #[.int .i64 S.kind, vl, .bool S.isSealed, .int .i64 S.to] 24
  gsG : w.heap.size ≤ gs
  ne : gz ≠ gs
  rd : Rd wr vl S.L
  len : S.L.length ≤ 300
  lie : 0 < S.L.length → ∀ q, vl.ownBlock = some q → (q < w.heap.size ∧ ¬ machF R.bm R.vc R.vs q) ∨ (w.heap.size ≤ q ∧ q < wr.heap.size ∧ q ≠ gs ∧ q ≠ gz)
  recs : RecRd wr vg l
  recsG : Fresh w.heap.size vg
  recsN : vg.ownBlock ≠ some gs
section
variable {w wr : World} {base be n gz gs : Nat} {R : HRef} {s S : St} {H : HS} {vl vg : Value} {l : List Rec} {st : List Int}
theorem SMid.below {w2 : World} (h : SMid w wr base be n R s H gz gs S vl vg l st) (hb : Below wr.heap.size wr w2) : SMid w w2 base be n R s H gz gs S vl vg l st := by
  have k2 := Keeps.ofBelow (F := fun _ => False) hb
  have := hb.size
  exact ⟨h.own0, h.machT, h.rep.keeps k2 (fun _ h => h.elim), h.keeps.trans' (k2.mono (fun _ h => h.elim)), h.zero.below hb h.zero.lt, h.gzG, h.box.below hb h.box.lt, h.gsG, h.ne, h.rd.below hb (Nat.le_refl _), h.len, fun h0 q hq => (h.lie h0 q hq).imp id (fun g => ⟨g.1, by omega, g.2.2⟩), h.recs.keeps k2 (fun _ _ h => h), h.recsG, h.recsN⟩
theorem SMid.round {w3 w4 : World} {vn : Value} {S' : St} (h : SMid w wr base be n R s H gz gs S vl vg l st) (rdn : Rd w3 vn S'.L) (hlen : S'.L.length ≤ 300) (bel : Below wr.heap.size wr w3) (orn : vn = vl ∨ (Own w3 3 1 vn S'.L.length (ints S'.L) ∧ Fresh wr.heap.size vn))
    (k34 : Keeps (fun q => q = gs) w3 w4) (hB4 : Blk w4 gs #[.int .i64 S'.kind, vn, .bool S'.isSealed, .int .i64 S'.to] 24) : SMid w w4 base be n R s H gz gs S' vn vg l st := by
  have s3 := bel.size
  have s4 := k34.size
  have hw2 := h.keeps.size
  have hgl := h.box.lt
  have hzl := h.zero.lt
  have hgsG := h.gsG
  have h3 := h.below bel
  have hvn : 0 < S'.L.length → ∀ q, vn.ownBlock = some q → (q < w.heap.size ∧ ¬ machF R.bm R.vc R.vs q) ∨ (w.heap.size ≤ q ∧ q < w3.heap.size ∧ q ≠ gs ∧ q ≠ gz) := by
    intro h0 q hq
    rcases orn with rfl | ⟨ho, hf⟩
    · have hl := rd_len h3.rd rdn
      exact (h.lie (by omega) q hq).imp id (fun g => ⟨g.1, by omega, g.2.2⟩)
    · have h1 := hf q hq
      exact .inr ⟨by omega, own_lt ho hq, by omega, by omega⟩
  refine ⟨h.own0, h.machT, h3.rep.keeps k34 (fun q hq => h.own0 q (by omega)), h3.keeps.trans k34 (fun q hq => .inr (by omega)), h3.zero.keeps k34 h.ne, h.gzG, hB4, h.gsG, h.ne, rd_keeps rdn k34 (fun h0 q hq e => ?_), hlen, fun h0 q hq => (hvn h0 q hq).imp id (fun g => ⟨g.1, by omega, g.2.2⟩), h3.recs.keeps k34 (fun q hq e => h.recsN (by rw [hq, e])), h.recsG, h.recsN⟩
  rcases hvn h0 q hq with g | g
  · omega
  · exact g.2.2.1 e
end
/-- What State leaves. -/
def HStateP (w : World) (base be n : Nat) (R : HRef) (s : St) (H : HS) (e : Ending) (w' : World) : Prop :=
  ∃ v' S st, S = behind s (H.log s) ∧ S.L.length ≤ 300 ∧ e = .returned (.agg #[.int .i64 S.kind, v', .bool S.isSealed, .int .i64 S.to]) ∧ Rd w' v' S.L ∧ HRep w' base be { R with steps := st } n s H ∧ Keeps (machF R.bm R.vc R.vs) w w'

set_option maxRecDepth 100000 in
set_option maxHeartbeats 6400000 in
theorem he_state {w : World} {base be n : Nat} {R : HRef} {s : St} {H : HS} (h : HRep w base be R n s H) (g : HG n s H) (hs : s.L.length ≤ 300) (hcl : H.chain.length ≤ 100000000) :
    Calls Try.prog 31 #[.pointer (some ⟨be, 0, none⟩)] w (HStateP w base be n R s H) := by
  have own0 : ∀ q, w.heap.size ≤ q → R.own q = none ∧ base ≤ q := fun q hq => by
    refine ⟨?_, ?_⟩
    · cases e : R.own q with
      | none => rfl
      | some t => have := h.fresh q (by rw [e]; simp); omega
    · have := h.fresh be (by rw [h.engT]; simp); omega
  have machT : ∀ q, machF R.bm R.vc R.vs q → q < w.heap.size := fun q hq => h.mach.lt hq
  obtain ⟨av, cv0, hsv, -⟩ := id h.start
  have hbel := h.eng.lt
  have e0 : (w.alloc (.cells #[.int .i64 0, .slice none 0 0, .bool false, .int .i64 0] 24)).cell? ⟨be, 0, none⟩ = some (.int .i64 s.kind) := (h.eng.alloc _).cell 0
  have e1 : (w.alloc (.cells #[.int .i64 0, .slice none 0 0, .bool false, .int .i64 0] 24)).cell? ⟨be, 1, none⟩ = some R.sv := (h.eng.alloc _).cell 1
  have e2 : (w.alloc (.cells #[.int .i64 0, .slice none 0 0, .bool false, .int .i64 0] 24)).cell? ⟨be, 2, none⟩ = some (.bool s.isSealed) := (h.eng.alloc _).cell 2
  have e3 : (w.alloc (.cells #[.int .i64 0, .slice none 0 0, .bool false, .int .i64 0] 24)).cell? ⟨be, 3, none⟩ = some (.int .i64 s.to) := (h.eng.alloc _).cell 3
  have hb2 : Below w.heap.size w ((w.alloc (.cells #[.int .i64 0, .slice none 0 0, .bool false, .int .i64 0] 24)).alloc (.cells #[.int .i64 s.kind, R.sv, .bool s.isSealed, .int .i64 s.to] 24)) := ((Below.refl _ _).alloc (Nat.le_refl _) _).alloc (by simp) _
  have hL := he_log (h.keeps (Keeps.ofBelow (F := fun _ => False) hb2) (fun _ h => h.elim)) g hs hcl
  have hst2 := h.start.below hb2 (Nat.le_refl _)
  have hS2 := Blk.new (w.alloc (.cells #[.int .i64 0, .slice none 0 0, .bool false, .int .i64 0] 24)) #[.int .i64 s.kind, R.sv, .bool s.isSealed, .int .i64 s.to] 24
  have hZ2 := (Blk.new w #[.int .i64 0, .slice none 0 0, .bool false, .int .i64 0] 24).alloc (.cells #[.int .i64 s.kind, R.sv, .bool s.isSealed, .int .i64 s.to] 24)
  rw [World.size_alloc] at hS2
  rw [hsv] at e1 hL hb2 hst2 hS2 hZ2
  have hok : (H.log s).length ≤ 100000000 := by rw [log_len]; omega
  have HH := Lib.hid h
  have HL := Lib.hid hL
  have HB2 := Lib.hid hb2
  have HS2 := Lib.hid hS2
  have HZ2 := Lib.hid hZ2
  have HT2 := Lib.hid hst2
  have HSV := Lib.hid hsv
  clear h hL hb2 hS2 hZ2 hst2 hsv
  go_enter Try.func31, Try.ntmps31
  go_wp2_with (go_at_call 30; refine HL.out.mono ?_; rintro e w3 ⟨vg, st3, rfl, hO3, hf3, hr3, hK3⟩; have hc3 := own_shape hO3; obtain ⟨a3, c3, rfl⟩ := hc3; have HO3 := Lib.hid hO3; have HF3 := Lib.hid hf3; have HR3 := Lib.hid hr3; have HK3 := Lib.hid hK3; clear hO3 hf3 hr3 hK3)
  have hM3 : SMid w w3 base be n R s H w.heap.size (w.heap.size + 1) s (.slice av s.L.length cv0) (.slice a3 (H.log s).length c3) (H.log s) st3 := by
    have z2 := HB2.out.size
    have hne : ∀ q, w.heap.size ≤ q → ¬ machF R.bm R.vc R.vs q := fun q hq hf => by have := machT q hf; omega
    have hlie : 0 < s.L.length → ∀ q, (Value.slice av s.L.length cv0).ownBlock = some q → q < w.heap.size ∧ ¬ machF R.bm R.vc R.vs q := fun hl q hq => by
      rw [← HSV.out] at hq
      refine ⟨rd_block HH.out.start hl q hq, fun hf => ?_⟩
      have hm := HH.out.machT q hf
      rcases HH.out.startT hl q hq with e | e
      · rw [hm] at e; simp at e
      · have := (HH.out.fresh q (by rw [hm]; simp)).1; omega
    exact ⟨own0, machT, HR3.out, ((Keeps.ofBelow (F := fun _ => False) HB2.out).mono (fun _ h => h.elim)).trans' HK3.out, HZ2.out.keeps HK3.out (hne _ (Nat.le_refl _)), Nat.le_refl _, HS2.out.keeps HK3.out (hne _ (by omega)), by omega, by omega,
      rd_keeps HT2.out HK3.out (fun hl q hq => (hlie hl q hq).2), hs, fun hl q hq => .inl (hlie hl q hq), RecRd.of HO3.out, fun q hq => by have := HF3.out q hq; omega, fun e => by have := HF3.out _ e; simp at this; omega⟩
  obtain ⟨l, hl⟩ : ∃ l, l = H.log s := ⟨_, rfl⟩
  rw [← hl] at hM3 hok
  simp only [← hl]
  have HLG := Lib.hid hl
  clear HO3 HF3 HR3 HK3 HT2 HZ2 HS2 HB2 HL HSV e0 e1 e2 e3 hl own0 machT
  go_loopw [13] (fun iv wr => ∃ (i : Nat) (vl : Value) (st : List Int), i ≤ l.length ∧ iv = .int .i64 i ∧ SMid w wr base be n R s H w.heap.size (w.heap.size + 1) (behind s (l.take i)) vl (.slice a3 l.length c3) l st) (fun iv _ => l.length - (intOf iv).toNat)
  case atStart => exact ⟨0, _, _, by omega, rfl, by simpa [behind] using hM3⟩
  case round =>
    obtain ⟨i, vl, st, hi, rfl, hM⟩ := hrel
    clear hM3
    by_cases hlt : i < l.length
    · have d0 : decide ((i : Int) < l.length) = true := decide_eq_true (by omega)
      have i1 : (0 : Int) ≤ (i : Int) := by omega
      have i2 : (i : Int) < (l.length : Int) := by omega
      have i64k : IntKind.i64.wrap ((i : Int) + 1) = (i : Int) + 1 := IntWalk.i64_in _ (by omega)
      obtain ⟨lb, lo, r, hr, rfl, hlb, l0, l1, l2, l3, l4, l5, l6⟩ := hM.recs.cells hlt
      have hri : l[i]? = some r := by rw [hr, List.getD_eq_getElem?_getD, List.getElem?_eq_getElem hlt]; rfl
      have htk : l.take (i + 1) = l.take i ++ [r] := by
        obtain ⟨h1, h2⟩ := List.getElem?_eq_some_iff.1 hri
        rw [List.take_succ_eq_append_getElem h1, h2]
      have hbh : behind s (l.take (i + 1)) = (stepS (behind s (l.take i)) r.op).1 := by rw [htk, behind_snoc]
      generalize behind s (l.take i) = S at *
      obtain ⟨aw, cw, evw, -⟩ := id hM.rd
      subst evw
      have hb2 : Below wr.heap.size wr (wr.alloc (.cells #[.int .i64 r.index, .int .i64 r.proc, .int .i64 r.seq, .int .i64 r.op.code, .int .i64 r.op.a, .int .i64 r.op.b, .int .i64 r.resp] 39)) := (Below.refl _ _).alloc (Nat.le_refl _) (.cells #[.int .i64 r.index, .int .i64 r.proc, .int .i64 r.seq, .int .i64 r.op.code, .int .i64 r.op.a, .int .i64 r.op.b, .int .i64 r.resp] 39)
      have hM2 := hM.below hb2
      have hR2 := Blk.new wr #[.int .i64 r.index, .int .i64 r.proc, .int .i64 r.seq, .int .i64 r.op.code, .int .i64 r.op.a, .int .i64 r.op.b, .int .i64 r.resp] 39
      have HST := Lib.hid (o_step (w := wr.alloc (.cells #[.int .i64 r.index, .int .i64 r.proc, .int .i64 r.seq, .int .i64 r.op.code, .int .i64 r.op.a, .int .i64 r.op.b, .int .i64 r.resp] 39)) (vl := .slice aw S.L.length cw) S r.op hM2.rd (by have := hM2.len; omega))
      have m0 : (wr.alloc (.cells #[.int .i64 r.index, .int .i64 r.proc, .int .i64 r.seq, .int .i64 r.op.code, .int .i64 r.op.a, .int .i64 r.op.b, .int .i64 r.resp] 39)).cell? ⟨w.heap.size + 1, 0, none⟩ = some (.int .i64 S.kind) := hM2.box.cell 0
      have m1 : (wr.alloc (.cells #[.int .i64 r.index, .int .i64 r.proc, .int .i64 r.seq, .int .i64 r.op.code, .int .i64 r.op.a, .int .i64 r.op.b, .int .i64 r.resp] 39)).cell? ⟨w.heap.size + 1, 1, none⟩ = some (.slice aw S.L.length cw) := hM2.box.cell 1
      have m2 : (wr.alloc (.cells #[.int .i64 r.index, .int .i64 r.proc, .int .i64 r.seq, .int .i64 r.op.code, .int .i64 r.op.a, .int .i64 r.op.b, .int .i64 r.resp] 39)).cell? ⟨w.heap.size + 1, 2, none⟩ = some (.bool S.isSealed) := hM2.box.cell 2
      have m3 : (wr.alloc (.cells #[.int .i64 r.index, .int .i64 r.proc, .int .i64 r.seq, .int .i64 r.op.code, .int .i64 r.op.a, .int .i64 r.op.b, .int .i64 r.resp] 39)).cell? ⟨w.heap.size + 1, 3, none⟩ = some (.int .i64 S.to) := hM2.box.cell 3
      have k0 : (wr.alloc (.cells #[.int .i64 r.index, .int .i64 r.proc, .int .i64 r.seq, .int .i64 r.op.code, .int .i64 r.op.a, .int .i64 r.op.b, .int .i64 r.resp] 39)).cell? ⟨wr.heap.size, 3, none⟩ = some (.int .i64 r.op.code) := hR2.cell 3
      have k1 : (wr.alloc (.cells #[.int .i64 r.index, .int .i64 r.proc, .int .i64 r.seq, .int .i64 r.op.code, .int .i64 r.op.a, .int .i64 r.op.b, .int .i64 r.resp] 39)).cell? ⟨wr.heap.size, 4, none⟩ = some (.int .i64 r.op.a) := hR2.cell 4
      have k2 : (wr.alloc (.cells #[.int .i64 r.index, .int .i64 r.proc, .int .i64 r.seq, .int .i64 r.op.code, .int .i64 r.op.a, .int .i64 r.op.b, .int .i64 r.resp] 39)).cell? ⟨wr.heap.size, 5, none⟩ = some (.int .i64 r.op.b) := hR2.cell 5
      have hl300 := step_len r.op hM2.len
      obtain ⟨q, hq⟩ : ∃ q, q = stepS S r.op := ⟨_, rfl⟩
      rw [← hq] at HST hl300
      have HQ := Lib.hid hq
      have HM2 := Lib.hid hM2
      have HBH := Lib.hid hbh
      have HM := Lib.hid hM
      clear hq hM2 hb2 hR2 hM hbh htk hri hr
      go_wp2_with (go_at_call 55; refine HST.out.mono ?_; rintro e w4 ⟨vn, rfl, rdn, beln, orn⟩; obtain ⟨an, cn, evn, _⟩ := id rdn; subst evn; have hB3 := HM2.out.box.below beln HM2.out.box.lt; have t0 := hB3.cell 0; have t1 := hB3.cell 1; have t2 := hB3.cell 2; have t3 := hB3.cell 3; simp at t0 t1 t2 t3; have ft0 := hB3.frozen 0; have ft1 := hB3.frozen 1; have ft2 := hB3.frozen 2; have ft3 := hB3.frozen 3; have HB3 := Lib.hid hB3; have HRD := Lib.hid rdn; have HBE := Lib.hid beln; have HOR := Lib.hid orn; clear hB3 rdn beln orn)
      go_roundw
      case rel =>
        have hB4 := (((HB3.out.set 0 (.int .i64 q.1.kind)).set 1 (.slice an q.1.L.length cn)).set 2 (.bool q.1.isSealed)).set 3 (.int .i64 q.1.to)
        have K34 : Keeps (fun x => x = w.heap.size + 1) w4 _ := ((((Keeps.refl (fun x => x = w.heap.size + 1) w4).set (w.heap.size + 1) 0 (.inl rfl) (.int .i64 q.1.kind)).set (w.heap.size + 1) 1 (.inl rfl) (.slice an q.1.L.length cn)).set (w.heap.size + 1) 2 (.inl rfl) (.bool q.1.isSealed)).set (w.heap.size + 1) 3 (.inl rfl) (.int .i64 q.1.to)
        have hro := HM2.out.round HRD.out hl300 HBE.out HOR.out K34 hB4
        have hbq : behind s (l.take (i + 1)) = q.1 := by rw [HBH.out, HQ.out]
        have HRO := Lib.hid hro
        clear hro
        first
          | exact ⟨i + 1, _, _, by omega, by go_num, by rw [hbq]; exact HRO.out⟩
          | ((repeat apply Exists.intro); exact ⟨⟨i + 1, _, _, by omega, by go_num, by rw [hbq]; exact HRO.out⟩, rfl⟩)
      case measure => simp [intOf]; omega
    · obtain rfl : i = l.length := by omega
      rw [List.take_length] at hM
      have d0 : decide ((l.length : Int) < l.length) = false := decide_eq_false (by omega)
      have hll : l = H.log s := HLG.out
      generalize hS : behind s l = S at *
      obtain ⟨aw, cw, evw, -⟩ := id hM.rd
      subst evw
      have m0 : wr.cell? ⟨w.heap.size + 1, 0, none⟩ = some (.int .i64 S.kind) := hM.box.cell 0
      have m1 : wr.cell? ⟨w.heap.size + 1, 1, none⟩ = some (.slice aw S.L.length cw) := hM.box.cell 1
      have m2 : wr.cell? ⟨w.heap.size + 1, 2, none⟩ = some (.bool S.isSealed) := hM.box.cell 2
      have m3 : wr.cell? ⟨w.heap.size + 1, 3, none⟩ = some (.int .i64 S.to) := hM.box.cell 3
      have z0 := hM.zero.cell 0
      have z1 := hM.zero.cell 1
      have z2 := hM.zero.cell 2
      have z3 := hM.zero.cell 3
      simp at z0 z1 z2 z3
      have fz0 := hM.zero.frozen 0
      have fz1 := hM.zero.frozen 1
      have fz2 := hM.zero.frozen 2
      have fz3 := hM.zero.frozen 3
      have hzl := hM.zero.lt
      have HM := Lib.hid hM
      have HS := Lib.hid hS
      have HLL := Lib.hid hll
      clear hM hS hll
      go_wp2_with fail
      refine bodyPost_ret (v := .agg #[.int .i64 S.kind, .slice aw S.L.length cw, .bool S.isSealed, .int .i64 S.to]) ?_ rfl ?_
      · simp [results, Try.results31, go_sem, z0, z1, z2, z3]
      · have k : Keeps (fun x => x = w.heap.size) wr _ := ((((Keeps.refl (fun x => x = w.heap.size) wr).set w.heap.size 0 (.inl rfl) (.int .i64 S.kind)).set w.heap.size 1 (.inl rfl) (.slice aw S.L.length cw)).set w.heap.size 2 (.inl rfl) (.bool S.isSealed)).set w.heap.size 3 (.inl rfl) (.int .i64 S.to)
        refine ⟨.slice aw S.L.length cw, S, st, by rw [← HLL.out]; exact HS.out.symm, HM.out.len, rfl, rd_keeps HM.out.rd k (fun h0 q hq e => ?_), HM.out.rep.keeps k (fun q hq => HM.out.own0 q (by omega)), HM.out.keeps.trans k (fun q hq => .inr (by omega))⟩
        rcases HM.out.lie h0 q hq with g | g
        · omega
        · exact g.2.2.2 e
end Go.Proofs.Ytjfenjnnpikkdaa
