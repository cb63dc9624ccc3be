/-
  Layer 4, ObjsSteps: whatever the state and the operation, the law returns true, and the arguments read as they did. No condition.
-/
import Derived.Test.YtaoagaokocnehaaRows
import Derived.WalkKit
import Derived.ProofKit
import Derived.OpenShut
import Derived.ShutString
import Derived.ChangeOld
import Derived.Below
import Derived.Test.YtaoagaokocnehaaKa
import Derived.Test.YtaoagaokocnehaaKf
import Derived.Test.YtaoagaokocnehaaKg
namespace Go.Proofs.Ytaoagaokocnehaa
set_option linter.unusedVariables false
set_option maxRecDepth 100000
set_option linter.unusedSimpArgs false
open Go.RowKit

theorem sameB_refl (s : St) : sameB s s = true := by simp [sameB]

set_option maxRecDepth 100000 in
set_option maxHeartbeats 6400000 in
theorem steps_walk (s : St) (vl : Value) (o : Op3) (w : World) (hx : Rd w vl s.L) :
    Calls Try.prog 3 #[.agg #[.int .i64 s.kind, vl, .bool s.isSealed, .int .i64 s.to], .agg #[.int .i64 o.code, .int .i64 o.a, .int .i64 o.b]] w (Tells w true) := by
  obtain ⟨k, L, b, t⟩ := s
  obtain ⟨co, oa, ob⟩ := o
  simp only at hx ⊢
  obtain ⟨a, n, c, rfl, hn⟩ : ∃ a n c, vl = .slice a n c ∧ n = L.length := by
    obtain ⟨a, c, e, _⟩ := hx
    exact ⟨a, _, c, e, rfl⟩
  have FEW := fun W (h : Rd W (.slice a n c) L) => Lib.hid (few04 (w := W) (vl := .slice a n c) ⟨k, L, b, t⟩ h)
  simp only at FEW
  have bs := (Blk.new w #[.int .i64 k, .slice a n c, .bool b, .int .i64 t] 24).alloc (.cells #[.int .i64 co, .int .i64 oa, .int .i64 ob] 26)
  have bo := Blk.new (w.alloc (.cells #[.int .i64 k, .slice a n c, .bool b, .int .i64 t] 24)) #[.int .i64 co, .int .i64 oa, .int .i64 ob] 26
  have hW0 : Below w.heap.size w ((w.alloc (.cells #[.int .i64 k, .slice a n c, .bool b, .int .i64 t] 24)).alloc (.cells #[.int .i64 co, .int .i64 oa, .int .i64 ob] 26)) := ((Below.refl _ w).alloc (Nat.le_refl _) _).alloc (by simp) _
  simp only [World.size_alloc] at bo
  have HX := Lib.hid hx
  have HN := Lib.hid hn
  clear hx hn
  by_cases hl : L.length ≤ 300
  case neg =>
    simp only [decide_eq_false hl] at FEW
    go_enter Try.func3, Try.ntmps3
    go_wp2_with fail
    refine (awake04 _).mono ?_
    rintro e wa ⟨rfl, hBa⟩
    have q0 : wa.cell? ⟨w.heap.size, 0, none⟩ = some (.int .i64 k) := (bs.below hBa bs.lt).cell 0
    have q1 : wa.cell? ⟨w.heap.size, 1, none⟩ = some (.slice a n c) := (bs.below hBa bs.lt).cell 1
    have q2 : wa.cell? ⟨w.heap.size, 2, none⟩ = some (.bool b) := (bs.below hBa bs.lt).cell 2
    have q3 : wa.cell? ⟨w.heap.size, 3, none⟩ = some (.int .i64 t) := (bs.below hBa bs.lt).cell 3
    have o0 : wa.cell? ⟨w.heap.size + 1, 0, none⟩ = some (.int .i64 co) := (bo.below hBa bo.lt).cell 0
    have o1 : wa.cell? ⟨w.heap.size + 1, 1, none⟩ = some (.int .i64 oa) := (bo.below hBa bo.lt).cell 1
    have o2 : wa.cell? ⟨w.heap.size + 1, 2, none⟩ = some (.int .i64 ob) := (bo.below hBa bo.lt).cell 2
    have hWa := hW0.trans (hBa.mono hW0.size)
    have HWa := Lib.hid hWa
    clear hWa
    go_wp2_with fail
    refine (FEW _ (HX.out.below HWa.out (Nat.le_refl _))).out.mono ?_
    rintro e wb ⟨rfl, hBb⟩
    clear q0 q1 q2 q3 o0 o1 o2
    have hB2 := hBa.trans (hBb.mono hBa.size)
    have hWb := HWa.out.trans (hBb.mono HWa.out.size)
    have q0 : wb.cell? ⟨w.heap.size, 0, none⟩ = some (.int .i64 k) := (bs.below hB2 bs.lt).cell 0
    have q1 : wb.cell? ⟨w.heap.size, 1, none⟩ = some (.slice a n c) := (bs.below hB2 bs.lt).cell 1
    have q2 : wb.cell? ⟨w.heap.size, 2, none⟩ = some (.bool b) := (bs.below hB2 bs.lt).cell 2
    have q3 : wb.cell? ⟨w.heap.size, 3, none⟩ = some (.int .i64 t) := (bs.below hB2 bs.lt).cell 3
    have o0 : wb.cell? ⟨w.heap.size + 1, 0, none⟩ = some (.int .i64 co) := (bo.below hB2 bo.lt).cell 0
    have o1 : wb.cell? ⟨w.heap.size + 1, 1, none⟩ = some (.int .i64 oa) := (bo.below hB2 bo.lt).cell 1
    have o2 : wb.cell? ⟨w.heap.size + 1, 2, none⟩ = some (.int .i64 ob) := (bo.below hB2 bo.lt).cell 2
    have HWb := Lib.hid hWb
    clear hWb hBa hBb
    go_wp2_with fail
    go_ret
    exact ⟨rfl, HWb.out⟩
  simp only [decide_eq_true hl] at FEW
  go_enter Try.func3, Try.ntmps3
  go_wp2_with fail
  refine (awake04 _).mono ?_
  rintro e wa ⟨rfl, hBa⟩
  have q0 : wa.cell? ⟨w.heap.size, 0, none⟩ = some (.int .i64 k) := (bs.below hBa bs.lt).cell 0
  have q1 : wa.cell? ⟨w.heap.size, 1, none⟩ = some (.slice a n c) := (bs.below hBa bs.lt).cell 1
  have q2 : wa.cell? ⟨w.heap.size, 2, none⟩ = some (.bool b) := (bs.below hBa bs.lt).cell 2
  have q3 : wa.cell? ⟨w.heap.size, 3, none⟩ = some (.int .i64 t) := (bs.below hBa bs.lt).cell 3
  have o0 : wa.cell? ⟨w.heap.size + 1, 0, none⟩ = some (.int .i64 co) := (bo.below hBa bo.lt).cell 0
  have o1 : wa.cell? ⟨w.heap.size + 1, 1, none⟩ = some (.int .i64 oa) := (bo.below hBa bo.lt).cell 1
  have o2 : wa.cell? ⟨w.heap.size + 1, 2, none⟩ = some (.int .i64 ob) := (bo.below hBa bo.lt).cell 2
  have hWa := hW0.trans (hBa.mono hW0.size)
  have HWa := Lib.hid hWa
  clear hWa
  go_wp2_with fail
  refine (FEW _ (HX.out.below HWa.out (Nat.le_refl _))).out.mono ?_
  rintro e wb ⟨rfl, hBb⟩
  clear q0 q1 q2 q3 o0 o1 o2
  have hB2 := hBa.trans (hBb.mono hBa.size)
  have hWb := HWa.out.trans (hBb.mono HWa.out.size)
  have q0 : wb.cell? ⟨w.heap.size, 0, none⟩ = some (.int .i64 k) := (bs.below hB2 bs.lt).cell 0
  have q1 : wb.cell? ⟨w.heap.size, 1, none⟩ = some (.slice a n c) := (bs.below hB2 bs.lt).cell 1
  have q2 : wb.cell? ⟨w.heap.size, 2, none⟩ = some (.bool b) := (bs.below hB2 bs.lt).cell 2
  have q3 : wb.cell? ⟨w.heap.size, 3, none⟩ = some (.int .i64 t) := (bs.below hB2 bs.lt).cell 3
  have o0 : wb.cell? ⟨w.heap.size + 1, 0, none⟩ = some (.int .i64 co) := (bo.below hB2 bo.lt).cell 0
  have o1 : wb.cell? ⟨w.heap.size + 1, 1, none⟩ = some (.int .i64 oa) := (bo.below hB2 bo.lt).cell 1
  have o2 : wb.cell? ⟨w.heap.size + 1, 2, none⟩ = some (.int .i64 ob) := (bo.below hB2 bo.lt).cell 2
  have HWb := Lib.hid hWb
  clear hWb hBa hBb
  have hx1 := (HX.out.below HWb.out (Nat.le_refl _)).alloc (.cells #[.int .i64 k, .slice a n c, .bool b, .int .i64 t] 24)
  have bd := Blk.new wb #[.int .i64 k, .slice a n c, .bool b, .int .i64 t] 24
  obtain ⟨gD, hgD⟩ : ∃ gD, wb.heap.size = gD := ⟨_, rfl⟩
  have hgt : w.heap.size + 1 < gD := by have := hB2.size; simp at this; omega
  have hgt0 : w.heap.size < gD := by omega
  have hgn0 : w.heap.size ≠ gD := by omega
  have hgn1 : w.heap.size + 1 ≠ gD := by omega
  have hgn2 : gD ≠ w.heap.size := by omega
  have hgn3 : gD ≠ w.heap.size + 1 := by omega
  have HX1 := Lib.hid hx1
  have HB2 := Lib.hid hB2
  have HBD := Lib.hid bd
  clear hx1 hB2 bd
  have hL300 : n ≤ 300 := by rw [HN.out]; exact hl
  go_wp2_with (at_builtin; refine wpList_copy_nil rfl _ _ rfl rfl _ L rfl HX1.out (by omega) ?_; intro v1 w1 hown hgrow hat; rw [← HN.out] at hown; obtain ⟨a1, c1, rfl⟩ := own_shape hown; have hG : Below (gD + 1) (wb.alloc (.cells #[.int .i64 k, .slice a n c, .bool b, .int .i64 t] 24)) w1 := ((Below.refl (gD + 1) _).grown hgrow (by simp [hgD]) (by simp)); have bd1 := HBD.out.below hG (by omega); rw [hgD] at bd1; have hne1 : ∀ j, (Value.slice a1 n c1).ownBlock = some j → ¬ j = gD := (fun j hj e => by have := hat j hj; simp at this; omega); clear q0 q1 q2 q3 o0 o1 o2; have hB3 := (HB2.out.alloc HB2.out.size (.cells #[.int .i64 k, .slice a n c, .bool b, .int .i64 t] 24)).grown hgrow (by have := HB2.out.size; simp at this ⊢; omega) (by simp); have q0 : w1.cell? ⟨w.heap.size, 0, none⟩ = some (.int .i64 k) := (bs.below hB3 bs.lt).cell 0; have q1 : w1.cell? ⟨w.heap.size, 1, none⟩ = some (.slice a n c) := (bs.below hB3 bs.lt).cell 1; have q2 : w1.cell? ⟨w.heap.size, 2, none⟩ = some (.bool b) := (bs.below hB3 bs.lt).cell 2; have q3 : w1.cell? ⟨w.heap.size, 3, none⟩ = some (.int .i64 t) := (bs.below hB3 bs.lt).cell 3; have o0 : w1.cell? ⟨w.heap.size + 1, 0, none⟩ = some (.int .i64 co) := (bo.below hB3 bo.lt).cell 0; have o1 : w1.cell? ⟨w.heap.size + 1, 1, none⟩ = some (.int .i64 oa) := (bo.below hB3 bo.lt).cell 1; have o2 : w1.cell? ⟨w.heap.size + 1, 2, none⟩ = some (.int .i64 ob) := (bo.below hB3 bo.lt).cell 2; have d0 := bd1.cell 0; have d1 := bd1.cell 1; have d2 := bd1.cell 2; have d3 := bd1.cell 3; simp at d0 d1 d2 d3; have df := bd1.frozen 1; have HB3 := Lib.hid hB3; have HD1 := Lib.hid bd1; have HO1 := Lib.hid hown; have HNE := Lib.hid hne1; clear hB3 bd1 hown hgrow hat hne1 hG)
  obtain ⟨r, hr⟩ : ∃ r, stepS ⟨k, L, b, t⟩ ⟨co, oa, ob⟩ = r := ⟨_, rfl⟩
  have OS := fun (W : World) (v : Value) (h : Rd W v L) => Lib.hid (o_step (w := W) (vl := v) ⟨k, L, b, t⟩ ⟨co, oa, ob⟩ h (by simp only; omega))
  have RS := fun (W : World) (v : Value) (h : Rd W v L) => Lib.hid (r_step (w := W) (vl := v) ⟨k, L, b, t⟩ ⟨co, oa, ob⟩ h)
  rw [hr] at OS RS
  clear hr
  obtain ⟨⟨k', L', b', t'⟩, n'⟩ := r
  simp only at OS RS
  have kD : Keeps (fun j => j = gD) w1 (w1.setCell ⟨gD, 1, none⟩ (.slice a1 n c1)) := Keeps.one w1 ⟨gD, 1, none⟩ (.slice a1 n c1)
  have bD : Blk (w1.setCell ⟨gD, 1, none⟩ (.slice a1 n c1)) gD #[.int .i64 k, .slice a1 n c1, .bool b, .int .i64 t] 24 := HD1.out.set 1 _
  have bS := (bs.below HB3.out bs.lt).keeps kD (by omega)
  have bO := (bo.below HB3.out bo.lt).keeps kD (by omega)
  have rd1 : Rd (w1.setCell ⟨gD, 1, none⟩ (.slice a1 n c1)) (.slice a1 n c1) L := own_rd (own_keeps HO1.out kD HNE.out)
  have hw1 := hW0.trans (HB3.out.mono hW0.size)
  have hw7 := hw1.trans (kD.below (B := w.heap.size) (by rintro j rfl; omega) hw1.size)
  generalize w1.setCell ⟨gD, 1, none⟩ (.slice a1 n c1) = w7 at *
  have rdx := HX.out.below hw7 (Nat.le_refl _)
  clear kD q0 q1 q2 q3 o0 o1 o2 d0 d1 d2 d3 df hw1 HB2 HBD HD1 HO1 HNE HX1
  refine (OS w7 _ rd1).out.mono ?_
  rintro e w8 ⟨va, rfl, rda, hb8, -⟩
  obtain ⟨aa, ca, rfl, -⟩ := id rda
  have bS8 := bS.below hb8 bS.lt
  have bO8 := bO.below hb8 bO.lt
  have bD8 := bD.below hb8 bD.lt
  have q0 := bS8.cell 0
  have q1 := bS8.cell 1
  have q2 := bS8.cell 2
  have q3 := bS8.cell 3
  have o0 := bO8.cell 0
  have o1 := bO8.cell 1
  have o2 := bO8.cell 2
  simp at q0 q1 q2 q3 o0 o1 o2
  have z0 := bS8.lt
  have z1 := bO8.lt
  have z2 := bD8.lt
  have z3 : w.heap.size ≠ w8.heap.size := by omega
  have z4 : w.heap.size + 1 ≠ w8.heap.size := by omega
  have hA : Below w8.heap.size w8 (w8.alloc (.cells #[.int .i64 k', .slice aa L'.length ca, .bool b', .int .i64 t'] 24)) := (Below.refl _ _).alloc (Nat.le_refl _) _
  have bA := Blk.new w8 #[.int .i64 k', .slice aa L'.length ca, .bool b', .int .i64 t'] 24
  have hw8 := hw7.trans (hb8.mono hw7.size)
  have rdx8 := (rdx.below hb8 (Nat.le_refl _)).below hA (Nat.le_refl _)
  have rd18 := (rd1.below hb8 (Nat.le_refl _)).below hA (Nat.le_refl _)
  have rda8 := rda.below hA (Nat.le_refl _)
  have bSA := bS8.alloc (.cells #[.int .i64 k', .slice aa L'.length ca, .bool b', .int .i64 t'] 24)
  have bDA := bD8.alloc (.cells #[.int .i64 k', .slice aa L'.length ca, .bool b', .int .i64 t'] 24)
  have hwA := hw8.trans (hA.mono hw8.size)
  clear bS bO bD bS8 bO8 bD8 rda hw7 hw8 rdx rd1 hb8 hA
  go_wp2_with fail
  refine (RS _ _ rdx8).out.mono ?_
  rintro e w9 ⟨vb, rfl, rdb, hb9, -⟩
  obtain ⟨ab, cb, rfl, -⟩ := id rdb
  clear q0 q1 q2 q3 o0 o1 o2 z0 z1 z3 z4
  have bS9 := bSA.below hb9 bSA.lt
  have bD9 := bDA.below hb9 bDA.lt
  have bA9 := bA.below hb9 bA.lt
  have e0 := bA9.cell 0
  have e1 := bA9.cell 1
  have e2 := bA9.cell 2
  have e3 := bA9.cell 3
  simp at e0 e1 e2 e3
  have z0 := bA9.lt
  have z3 : w8.heap.size ≠ w9.heap.size := by omega
  have hB : Below w9.heap.size w9 (w9.alloc (.cells #[.int .i64 k', .slice ab L'.length cb, .bool b', .int .i64 t'] 24)) := (Below.refl _ _).alloc (Nat.le_refl _) _
  have rdaB := (rda8.below hb9 (Nat.le_refl _)).below hB (Nat.le_refl _)
  have rdbB := rdb.below hB (Nat.le_refl _)
  have rdxB := (rdx8.below hb9 (Nat.le_refl _)).below hB (Nat.le_refl _)
  have rd1B := (rd18.below hb9 (Nat.le_refl _)).below hB (Nat.le_refl _)
  have SM := r_same (w := w9.alloc (.cells #[.int .i64 k', .slice ab L'.length cb, .bool b', .int .i64 t'] 24)) ⟨k', L', b', t'⟩ ⟨k', L', b', t'⟩ rdaB rdbB
  rw [sameB_refl] at SM
  have SM := Lib.hid SM
  have bSB := bS9.alloc (.cells #[.int .i64 k', .slice ab L'.length cb, .bool b', .int .i64 t'] 24)
  have bDB := bD9.alloc (.cells #[.int .i64 k', .slice ab L'.length cb, .bool b', .int .i64 t'] 24)
  have hw9 := hwA.trans (hb9.mono hwA.size)
  have hwB := hw9.trans (hB.mono hw9.size)
  clear bS9 bD9 bA9 bSA bDA bA rda8 rdx8 rd18 rdb hb9 hB hw9 hwA rdaB rdbB
  go_wp2_with fail
  refine SM.out.mono ?_
  rintro e w10 ⟨rfl, hb10⟩
  have bS10 := bSB.below hb10 bSB.lt
  have bD10 := bDB.below hb10 bDB.lt
  have q0 := bS10.cell 0
  have q1 := bS10.cell 1
  have q2 := bS10.cell 2
  have q3 := bS10.cell 3
  have d0 := bD10.cell 0
  have d1 := bD10.cell 1
  have d2 := bD10.cell 2
  have d3 := bD10.cell 3
  simp at q0 q1 q2 q3 d0 d1 d2 d3
  have SM2 := r_same (w := w10) ⟨k, L, b, t⟩ ⟨k, L, b, t⟩ (rd1B.below hb10 (Nat.le_refl _)) (rdxB.below hb10 (Nat.le_refl _))
  rw [sameB_refl] at SM2
  have SM2 := Lib.hid SM2
  have hw10 := hwB.trans (hb10.mono hwB.size)
  have HW10 := Lib.hid hw10
  clear bS10 bD10 bSB bDB rdxB rd1B hb10 hwB hw10 e0 e1 e2 e3 z0 z3 SM
  go_wp2_with fail
  refine SM2.out.mono ?_
  rintro e w11 ⟨rfl, hb11⟩
  go_wp2_with fail
  go_ret
  exact ⟨rfl, HW10.out.trans (hb11.mono HW10.out.size)⟩
end Go.Proofs.Ytaoagaokocnehaa
/- Layer 4, ObjsSteps: whatever the state and the operation, the law returns true, and the arguments read as they did. No condition. -/
namespace Go.Proofs.Ytaoagaokocnehaa.objsSteps
open Go.ChangeShapes Go.WideShapes Go.ChangeAt Go.RowKit
open Go.ChangeMaps (open_string shut_string)
set_option linter.unusedVariables false
set_option maxRecDepth 100000
set_option linter.unusedSimpArgs false

theorem own : ownKnob Try.prog.godebug = none := by kernel_rfl
theorem laidOut : laidOutB Try.prog = true := by kernel_rfl

set_option maxRecDepth 100000 in
theorem lifted (os : Os) (started : os.Started) (H : Type) (enc : TypeId × Value → H) :
    ReturnsInHanded {} Try.checked os 3 .any (Rows.objsStepsSpec.pre6 enc Try.prog Try.f3 Rows.objsStepsRow.domain false) (Rows.objsStepsSpec.post enc Try.prog Try.f3 false true false false) := by
  refine returnsInHanded_of_change (C := Try.checked) own started (by kernel_rfl) Try.func3
    (ChangeSpec.witness6 (enc := enc) (C := Try.checked) false ⟨#[], #[.agg #[.int .i64 0, .slice none 0 0, .bool false, .int .i64 0], .agg #[.int .i64 0, .int .i64 0, .int .i64 0]], []⟩ 8 (by kernel_rfl) (by kernel_rfl) (by kernel_rfl) (by kernel_rfl)) ?_
  intro W base args ds gs before hval0 hW hcnd _
  have hval : ∀ (j : Nat) t v, Try.f3.params[j]? = some t → args[j]? = some v → Value.okWide Try.prog W .any base t v := hval0
  have hW' := hW
  obtain ⟨p, q, hA0, hV, rfl, hfz, hnd⟩ := hW
  have hA : DataW.TrodAll enc Try.prog W 0 (fun _ => true) true Try.f3.params.toList args.toList ds p := hA0
  rw [Try.params3] at hA hval
  obtain ⟨v0, vs0, d0, ds0, p0, q0, hargs, rfl, rfl, h0, r0⟩ := trodAll_cons hA
  obtain ⟨v1, vs1, d1, ds1, p1, q1, rfl, rfl, rfl, h1, r1⟩ := trodAll_cons r0
  obtain ⟨rfl, rfl, rfl⟩ := trodAll_nil r1
  obtain rfl : args = #[v0, v1] := by cases args; simp_all
  obtain ⟨rfl, rfl⟩ := trodVars_none hV
  have k0 := h0
  have lt0 : ∀ x ∈ p0, x.block < W.heap.size := by obtain ⟨m, hm⟩ := k0; exact DataW.trod_lt m _ _ _ hm
  have k1 := h1
  have lt1 : ∀ x ∈ p1, x.block < W.heap.size := by obtain ⟨m, hm⟩ := k1; exact DataW.trod_lt m _ _ _ hm
  obtain ⟨s0, l0, rfl, w0⟩ := open_state (hval 0 24 v0 rfl rfl) h0
  obtain ⟨o1, rfl⟩ := open_op (hval 1 26 v1 rfl rfl) h1
  clear hA0 hval0
  refine (steps_walk s0 l0 o1 W w0).mono fun e W' ⟨he, bel⟩ => ?_
  subst he
  exact ⟨_, rfl, _, _, _, [], _, [], hW', trodAll_mk1 (shut_bool Try.underlying4 _), (trodAll_cons_mk (Below.trod laidOut (by kernel_rfl) (of_decide_eq_true (by kernel_rfl)) k0 bel lt0) (trodAll_cons_mk (Below.trod laidOut (by kernel_rfl) (of_decide_eq_true (by kernel_rfl)) k1 bel lt1) trodAll_mk0)), rfl, bel.frame _, fun h => by cases h⟩

theorem over : Rows.objsStepsRow.holds Try.pinned (OpenSpec.ofChange Rows.objsStepsSpec) :=
  OpenClaim.holds_of_wide 3 Try.f3 rfl rfl rfl rfl rfl rfl rfl ⟨rfl, rfl, rfl, rfl, rfl⟩ rfl rfl rfl rfl rfl (by kernel_rfl) Try.func3 (by kernel_rfl)
    (of_decide_eq_true (by kernel_rfl)) (by unfold Func.isWrapper; first | (rw [if_pos (by decide +kernel)]; kernel_rfl) | (rw [if_neg (by decide +kernel)]; exact ⟨rfl, rfl⟩))
    (fun os started H enc _ => lifted os started H enc)

theorem proved : Rows.ObjsStepsSaid := over
#print axioms proved
end Go.Proofs.Ytaoagaokocnehaa.objsSteps
