/-
  Package herlihy: offer.
-/
import Derived.Test.YtjfenjnnpikkdaaKia
set_option linter.unusedVariables false
set_option linter.unusedSimpArgs false
namespace Go.Proofs.Ytjfenjnnpikkdaa
set_option maxRecDepth 100000
open Go.RowKit
open Go.Proofs.YtjfenjnnpikkdaaW.PrintLast

theorem HRep.bne {w : World} {base be n p : Nat} {R : HRef} {s : St} {H : HS} (h : HRep w base be R n s H) (hp : p < n) : be ≠ R.pa p := fun e => by
  have := h.engT
  rw [e, (h.proc p hp).tag] at this
  simp at this
set_option maxRecDepth 100000 in
set_option maxHeartbeats 1600000 in
theorem he_offer_zero {w : World} {base be n p : Nat} {R : HRef} {s : St} {H : HS} (h : HRep w base be R n s H) (hp : p < n) (hph : (H.procs p).ph = .offer) (hc : H.ann ((H.procs p).turn % n) = 0) :
    Calls Try.prog 102 #[.pointer (some ⟨R.pa p, 0, none⟩)] w (HPost w base be R n s (H.step n p).1 (.tuple #[.int .i64 0, .bool false])) := by
  have e0 : (H.step n p).1 = ⟨H.nodes, H.chain, H.ann, H.head, upd H.procs p { H.procs p with prefer := (H.procs p).node, other := H.ann ((H.procs p).turn % n), ph := .swap }⟩ := by unfold HS.step; rw [hph]; simp [HS.stp, HS.put, hc]
  rw [e0]
  clear e0
  have hx := h.proc p hp
  have p0 : w.cell? ⟨R.pa p, 0, none⟩ = some (.pointer (some ⟨be, 0, none⟩)) := hx.blk.cell 0
  have p1 : w.cell? ⟨R.pa p, 1, none⟩ = some (.int .i64 p) := hx.blk.cell 1
  have e4 : w.cell? ⟨be, 4, none⟩ = some (.pointer (some ⟨R.bm, 0, none⟩)) := h.eng.cell 4
  have e5 : w.cell? ⟨be, 5, none⟩ = some (.int .i64 0) := h.eng.cell 5
  have e6 : w.cell? ⟨be, 6, none⟩ = some (.int .i64 n) := h.eng.cell 6
  have nP := h.nP hp
  have nE := h.nE
  have hsm := h.small
  have hm := hmf
  have p2 : w.cell? ⟨R.pa p, 2, none⟩ = some (.int .i64 (H.procs p).node) := hx.blk.cell 2
  have p10 : w.cell? ⟨R.pa p, 10, none⟩ = some (.int .i64 (H.procs p).turn) := hx.blk.cell 10
  have p11 : w.cell? ⟨R.pa p, 11, none⟩ = some (.int .i64 (H.procs p).prefer) := hx.blk.cell 11
  obtain ⟨gp, cp, ep, _⟩ := own_open h.procs (by omega)
  have e7 : w.cell? ⟨be, 7, none⟩ = some (.slice (some ⟨gp, 0, none⟩) n cp) := by rw [h.eng.cell 7]; simp [hengV, ep]
  obtain ⟨rt, hrt⟩ : ∃ rt : Nat, rt = (H.procs p).turn % n := ⟨_, rfl⟩
  have hrn : rt < n := by rw [hrt]; exact Nat.mod_lt _ hsm.1
  have nz : ((n : Int) == 0) = false := by simp; omega
  have nz' : ¬ (n : Int) = 0 := by omega
  have nz3 : ¬ n = 0 := by omega
  have tm : ((H.procs p).turn : Int).tmod (n : Int) = (rt : Int) := by rw [hrt]; exact (Int.ofNat_tmod _ _).symm
  have te : ((H.procs p).turn : Int) % (n : Int) = (rt : Int) := by rw [hrt]; omega
  have q1 : IntKind.i64.wrap (rt : Int) = (rt : Int) := IntWalk.i64_in _ (by omega)
  have HW := Lib.hid (he_read (w := (w.setCell ⟨R.pa p, 11, none⟩ (.int .i64 (H.procs p).node)).drew) (H := H) (((hx.blk.set 11 _).cell 0)) (((hx.blk.set 11 _).cell 1)) ((h.eng.other (h.bne hp) _).cell 4) ((h.mach.other nP _).drew) (c := rt) (by omega) nP nE)
  rw [cval_ann hrn] at HW
  rw [← hrt] at hc ⊢
  generalize H.ann rt = oth at *
  have d1 : ((oth : Int) == 0) = true := by simp; omega
  clear hc
  have f11 := hx.blk.frozen 11
  have hB1 := hx.blk.set 11 (.int .i64 (H.procs p).node)
  clear hrt
  go_enter Try.func102, Try.ntmps102
  go_wp2_with fail
  have s0 : (w.setCell ⟨R.pa p, 11, none⟩ (.int .i64 (H.procs p).node)).cell? ⟨R.pa p, 0, none⟩ = some (.pointer (some ⟨be, 0, none⟩)) := hB1.cell 0
  have s10 : (w.setCell ⟨R.pa p, 11, none⟩ (.int .i64 (H.procs p).node)).cell? ⟨R.pa p, 10, none⟩ = some (.int .i64 (H.procs p).turn) := hB1.cell 10
  have t5 : (w.setCell ⟨R.pa p, 11, none⟩ (.int .i64 (H.procs p).node)).cell? ⟨be, 5, none⟩ = some (.int .i64 0) := (h.eng.other (h.bne hp) _).cell 5
  have t7 : (w.setCell ⟨R.pa p, 11, none⟩ (.int .i64 (H.procs p).node)).cell? ⟨be, 7, none⟩ = some (.slice (some ⟨gp, 0, none⟩) n cp) := by rw [(h.eng.other (h.bne hp) _).cell 7]; simp [hengV, ep]
  have kA : Keeps (hturnF R p) w (w.setCell ⟨R.pa p, 11, none⟩ (.int .i64 (H.procs p).node)) := (Keeps.refl _ _).set _ 11 (.inl (.inr rfl)) _
  clear p0 p1 p2 p10 p11 e4 e5 e6 e7 f11
  generalize (w.setCell ⟨R.pa p, 11, none⟩ (.int .i64 (H.procs p).node)) = wA at *
  refine start_ (n := 27) (S := fun w' => w'.cell? ⟨R.pa p, 0, none⟩ = some (.pointer (some ⟨be, 0, none⟩)) ∧ w'.cell? ⟨R.pa p, 10, none⟩ = some (.int .i64 (H.procs p).turn) ∧ w'.cell? ⟨be, 5, none⟩ = some (.int .i64 0) ∧ w'.cell? ⟨be, 7, none⟩ = some (.slice (some ⟨gp, 0, none⟩) n cp)) (ds := [26]) #[false, false, false, false, false, false, false, false, false, false, false, false, false, false, false, false, false, false, false, false, false, false, false, false, false, false, false] (by kernel_rfl) rfl rfl ⟨s0, s10, t5, t7⟩ (fun hHeld => ?_)
  refine pure_ (i := 0) (N := some 11) (v := ?_) (a' := ?_) #[true, false, false, false, false, false, false, false, false, false, false, false, false, false, false, false, false, false, false, false, false, false, false, false, false, false, false] rfl rfl (by kernel_rfl) (fun _ _ _ h => h) (Or.inl ⟨by rfl, ?_⟩) ?_ ?_
  rotate_left
  · intro w'
    go_simp
    with_reducible rfl
  rotate_left
  · simp only [Act.put, nA, nB, nC, i64_w, i32_w]
    rfl
  refine pure_ (i := 1) (N := some 12) (v := ?_) (a' := ?_) #[true, true, false, false, false, false, false, false, false, false, false, false, false, false, false, false, false, false, false, false, false, false, false, false, false, false, false] rfl rfl (by kernel_rfl) (fun _ _ _ h => h) (Or.inl ⟨by rfl, ?_⟩) ?_ ?_
  rotate_left
  · intro w'
    go_simp
    with_reducible rfl
  rotate_left
  · simp only [Act.put, nA, nB, nC, i64_w, i32_w]
    rfl
  refine pure_ (i := 2) (N := some 13) (v := ?_) (a' := ?_) #[true, true, true, false, false, false, false, false, false, false, false, false, false, false, false, false, false, false, false, false, false, false, false, false, false, false, false] rfl rfl (by kernel_rfl) (fun _ _ _ h => h) (Or.inl ⟨by rfl, ?_⟩) ?_ ?_
  rotate_left
  · intro w'
    go_simp
    with_reducible rfl
  rotate_left
  · simp only [Act.put, nA, nB, nC, i64_w, i32_w]
    rfl
  refine pure_ (i := 3) (N := some 14) (v := ?_) (a' := ?_) #[true, true, true, true, false, false, false, false, false, false, false, false, false, false, false, false, false, false, false, false, false, false, false, false, false, false, false] rfl rfl (by kernel_rfl) (fun _ _ _ h => h) (Or.inl ⟨by rfl, ?_⟩) ?_ ?_
  rotate_left
  · intro w'
    go_simp
    with_reducible rfl
  rotate_left
  · simp only [Act.put, nA, nB, nC, i64_w, i32_w]
    rfl
  refine pure_ (i := 4) (N := some 15) (v := ?_) (a' := ?_) #[true, true, true, true, true, false, false, false, false, false, false, false, false, false, false, false, false, false, false, false, false, false, false, false, false, false, false] rfl rfl (by kernel_rfl) (fun _ _ _ h => h) (Or.inl ⟨by rfl, ?_⟩) ?_ ?_
  rotate_left
  · intro w'
    go_simp
    with_reducible rfl
  rotate_left
  · simp only [Act.put, nA, nB, nC, i64_w, i32_w]
    rfl
  refine pure_ (i := 9) (N := some 20) (v := ?_) (a' := ?_) #[true, true, true, true, true, false, false, false, false, true, false, false, false, false, false, false, false, false, false, false, false, false, false, false, false, false, false] rfl rfl (by kernel_rfl) (fun _ _ _ h => h) (Or.inl ⟨by rfl, ?_⟩) ?_ ?_
  rotate_left
  · intro w'
    go_simp
    with_reducible rfl
  rotate_left
  · simp only [Act.put, nA, nB, nC, i64_w, i32_w]
    rfl
  refine pure_ (i := 10) (N := some 21) (v := ?_) (a' := ?_) #[true, true, true, true, true, false, false, false, false, true, true, false, false, false, false, false, false, false, false, false, false, false, false, false, false, false, false] rfl rfl (by kernel_rfl) (fun _ _ _ h => h) (Or.inl ⟨by rfl, ?_⟩) ?_ ?_
  rotate_left
  · intro w'
    go_simp
    with_reducible rfl
  rotate_left
  · simp only [Act.put, nA, nB, nC, i64_w, i32_w]
    rfl
  refine pure_ (i := 11) (N := some 22) (v := ?_) (a' := ?_) #[true, true, true, true, true, false, false, false, false, true, true, true, false, false, false, false, false, false, false, false, false, false, false, false, false, false, false] rfl rfl (by kernel_rfl) (fun _ _ _ h => h) (Or.inl ⟨by rfl, ?_⟩) ?_ ?_
  rotate_left
  · intro w'
    go_simp
    with_reducible rfl
  rotate_left
  · simp only [Act.put, nA, nB, nC, i64_w, i32_w]
    rfl
  refine pure_ (i := 13) (N := some 24) (v := ?_) (a' := ?_) #[true, true, true, true, true, false, false, false, false, true, true, true, false, true, false, false, false, false, false, false, false, false, false, false, false, false, false] rfl rfl (by kernel_rfl) (fun _ _ _ h => h) (Or.inl ⟨by rfl, ?_⟩) ?_ ?_
  rotate_left
  · intro w'
    go_simp
    with_reducible rfl
  rotate_left
  · simp only [Act.put, nA, nB, nC, i64_w, i32_w]
    rfl
  refine pure_ (i := 14) (N := some 25) (v := ?_) (a' := ?_) #[true, true, true, true, true, false, false, false, false, true, true, true, false, true, true, false, false, false, false, false, false, false, false, false, false, false, false] rfl rfl (by kernel_rfl) (fun _ _ _ h => h) (Or.inl ⟨by rfl, ?_⟩) ?_ ?_
  rotate_left
  · intro w'
    go_simp
    with_reducible rfl
  rotate_left
  · simp only [Act.put, nA, nB, nC, i64_w, i32_w]
    rfl
  refine pure_ (i := 15) (N := some 26) (v := ?_) (a' := ?_) #[true, true, true, true, true, false, false, false, false, true, true, true, false, true, true, true, false, false, false, false, false, false, false, false, false, false, false] rfl rfl (by kernel_rfl) (fun _ _ _ h => h) (Or.inl ⟨by rfl, ?_⟩) ?_ ?_
  rotate_left
  · intro w'
    go_simp
    with_reducible rfl
  rotate_left
  · simp only [Act.put, nA, nB, nC, i64_w, i32_w]
    rfl
  refine take_ (i := 5) (N := some 16) (v := ?_) (a' := ?_) #[true, true, true, true, true, true, false, false, false, true, true, true, false, true, true, true, false, false, false, false, false, false, false, false, false, false, false] rfl rfl (by kernel_rfl) (fun _ _ _ h => h) (Or.inl ⟨by rfl, ?_⟩) hHeld ?_ ?_
  rotate_left
  · rintro w' ⟨s0, s1, s2, s3⟩
    go_simp
    with_reducible rfl
  rotate_left
  · simp only [Act.put, nA, nB, nC, i64_w, i32_w]
    rfl
  refine pure_ (i := 6) (N := some 17) (v := ?_) (a' := ?_) #[true, true, true, true, true, true, true, false, false, true, true, true, false, true, true, true, false, false, false, false, false, false, false, false, false, false, false] rfl rfl (by kernel_rfl) (fun _ _ _ h => h) (Or.inl ⟨by rfl, ?_⟩) ?_ ?_
  rotate_left
  · intro w'
    go_simp
    with_reducible rfl
  rotate_left
  · simp only [Act.put, nA, nB, nC, i64_w, i32_w]
    rfl
  refine pure_ (i := 7) (N := some 18) (v := ?_) (a' := ?_) #[true, true, true, true, true, true, true, true, false, true, true, true, false, true, true, true, false, false, false, false, false, false, false, false, false, false, false] rfl rfl (by kernel_rfl) (fun _ _ _ h => h) (Or.inl ⟨by rfl, ?_⟩) ?_ ?_
  rotate_left
  · intro w'
    go_simp
    with_reducible rfl
  rotate_left
  · simp only [Act.put, nA, nB, nC, i64_w, i32_w]
    rfl
  refine take_ (i := 8) (N := some 19) (v := ?_) (a' := ?_) #[true, true, true, true, true, true, true, true, true, true, true, true, false, true, true, true, false, false, false, false, false, false, false, false, false, false, false] rfl rfl (by kernel_rfl) (fun _ _ _ h => h) (Or.inl ⟨by rfl, ?_⟩) hHeld ?_ ?_
  rotate_left
  · rintro w' ⟨s0, s1, s2, s3⟩
    go_simp
    with_reducible rfl
  rotate_left
  · simp only [Act.put, nA, nB, nC, i64_w, i32_w]
    rfl
  refine take_ (i := 12) (N := some 23) (v := ?_) (a' := ?_) #[true, true, true, true, true, true, true, true, true, true, true, true, true, true, true, true, false, false, false, false, false, false, false, false, false, false, false] rfl rfl (by kernel_rfl) (fun _ _ _ h => h) (Or.inl ⟨by rfl, ?_⟩) hHeld ?_ ?_
  rotate_left
  · rintro w' ⟨s0, s1, s2, s3⟩
    go_simp
    with_reducible rfl
  rotate_left
  · simp only [Act.put, nA, nB, nC, i64_w, i32_w]
    rfl
  refine take_ (i := 16) (N := some 27) (v := ?_) (a' := ?_) #[true, true, true, true, true, true, true, true, true, true, true, true, true, true, true, true, true, false, false, false, false, false, false, false, false, false, false] rfl rfl (by kernel_rfl) (fun _ _ _ h => h) (Or.inl ⟨by rfl, ?_⟩) hHeld ?_ ?_
  rotate_left
  · rintro w' ⟨s0, s1, s2, s3⟩
    go_simp
    with_reducible rfl
  rotate_left
  · simp only [Act.put, nA, nB, nC, i64_w, i32_w]
    rfl
  refine pure_ (i := 17) (N := some 28) (v := ?_) (a' := ?_) #[true, true, true, true, true, true, true, true, true, true, true, true, true, true, true, true, true, true, false, false, false, false, false, false, false, false, false] rfl rfl (by kernel_rfl) (fun _ _ _ h => h) (Or.inl ⟨by rfl, ?_⟩) ?_ ?_
  rotate_left
  · intro w'
    go_simp
    with_reducible rfl
  rotate_left
  · simp only [Act.put, nA, nB, nC, i64_w, i32_w]
    rfl
  refine pure_ (i := 18) (N := some 29) (v := ?_) (a' := ?_) #[true, true, true, true, true, true, true, true, true, true, true, true, true, true, true, true, true, true, true, false, false, false, false, false, false, false, false] rfl rfl (by kernel_rfl) (fun _ _ _ h => h) (Or.inl ⟨by rfl, ?_⟩) ?_ ?_
  rotate_left
  · intro w'
    go_simp
    with_reducible rfl
  rotate_left
  · simp only [Act.put, nA, nB, nC, i64_w, i32_w]
    rfl
  refine take_ (i := 19) (N := some 30) (v := ?_) (a' := ?_) #[true, true, true, true, true, true, true, true, true, true, true, true, true, true, true, true, true, true, true, true, false, false, false, false, false, false, false] rfl rfl (by kernel_rfl) (fun _ _ _ h => h) (Or.inl ⟨by rfl, ?_⟩) hHeld ?_ ?_
  rotate_left
  · rintro w' ⟨s0, s1, s2, s3⟩
    go_simp
    with_reducible rfl
  rotate_left
  · simp only [Act.put, nA, nB, nC, i64_w, i32_w]
    rfl
  refine pure_ (i := 20) (N := some 31) (v := ?_) (a' := ?_) #[true, true, true, true, true, true, true, true, true, true, true, true, true, true, true, true, true, true, true, true, true, false, false, false, false, false, false] rfl rfl (by kernel_rfl) (fun _ _ _ h => h) (Or.inl ⟨by rfl, ?_⟩) ?_ ?_
  rotate_left
  · intro w'
    go_simp
    with_reducible rfl
  rotate_left
  · simp only [Act.put, nA, nB, nC, i64_w, i32_w]
    rfl
  refine pure_ (i := 21) (N := some 32) (v := ?_) (a' := ?_) #[true, true, true, true, true, true, true, true, true, true, true, true, true, true, true, true, true, true, true, true, true, true, false, false, false, false, false] rfl rfl (by kernel_rfl) (fun _ _ _ h => h) (Or.inl ⟨by rfl, ?_⟩) ?_ ?_
  rotate_left
  · intro w'
    go_simp
    with_reducible rfl
  rotate_left
  · simp only [Act.put, nA, nB, nC, i64_w, i32_w]
    rfl
  refine pure_ (i := 22) (N := some 33) (v := ?_) (a' := ?_) #[true, true, true, true, true, true, true, true, true, true, true, true, true, true, true, true, true, true, true, true, true, true, true, false, false, false, false] rfl rfl (by kernel_rfl) (fun _ _ _ h => h) (Or.inl ⟨by rfl, ?_⟩) ?_ ?_
  rotate_left
  · intro w'
    go_simp
    with_reducible rfl
  rotate_left
  · simp only [Act.put, nA, nB, nC, i64_w, i32_w]
    rfl
  refine one_ (i := 23) (N := some 34) #[true, true, true, true, true, true, true, true, true, true, true, true, true, true, true, true, true, true, true, true, true, true, true, true, false, false, false] rfl rfl (by kernel_rfl) (by decide) (fun K hK => ?_)
  refine goes_ Try.func88 (by kernel_rfl) rfl #[.pointer (some ⟨R.pa p, 0, none⟩), .int .i64 rt] (by rfl) rfl rfl (by simp only [List.map_toArray, List.map_cons, List.map_nil]; rfl) ?_
  with_reducible refine (HW.out).mono ?_
  rintro e w3 ⟨rfl, ⟨s3, hM3⟩, hK3⟩
  refine ⟨_, rfl, ?_⟩
  have hB3 := hB1.drew.keeps hK3 nP
  have p7 : w3.cell? ⟨R.pa p, 7, none⟩ = some (.int .i64 (H.procs p).other) := hB3.cell 7
  have f7 := hB3.frozen 7
  try clear hHeld
  refine hK.out _ _ ⟨hK3.cellSome nP s0, hK3.cellSome nP s10, hK3.cellSome nE t5, hK3.cellSome nE t7⟩ (fun hHeld => ?_)
  clear hK K
  refine norm_ (a' := ?_) ?_ ?_
  rotate_left
  · show Act.put _ (some 34) _ = _
    simp only [Act.put, nA, nB, nC, i64_w, i32_w]
    rfl
  refine pure_ (i := 24) (N := some 35) (v := ?_) (a' := ?_) #[true, true, true, true, true, true, true, true, true, true, true, true, true, true, true, true, true, true, true, true, true, true, true, true, true, false, false] rfl rfl (by kernel_rfl) (fun _ _ _ h => h) (Or.inl ⟨by rfl, ?_⟩) ?_ ?_
  rotate_left
  · intro w'
    go_simp
    with_reducible rfl
  rotate_left
  · simp only [Act.put, nA, nB, nC, i64_w, i32_w]
    rfl
  refine pure_ (i := 25) (N := some 36) (v := ?_) (a' := ?_) #[true, true, true, true, true, true, true, true, true, true, true, true, true, true, true, true, true, true, true, true, true, true, true, true, true, true, false] rfl rfl (by kernel_rfl) (fun _ _ _ h => h) (Or.inl ⟨by rfl, ?_⟩) ?_ ?_
  rotate_left
  · intro w'
    go_simp
    with_reducible rfl
  rotate_left
  · simp only [Act.put, nA, nB, nC, i64_w, i32_w]
    rfl
  refine last_ (i := 26) (N := none) #[true, true, true, true, true, true, true, true, true, true, true, true, true, true, true, true, true, true, true, true, true, true, true, true, true, true, true] rfl rfl (by kernel_rfl) (by decide) (fun K hK => ?_)
  refine skip_ (w1 := ?_) (by rfl) rfl ?_ ?_
  rotate_left
  · go_simp
    rfl
  try clear hHeld
  refine hK.out _ _ ?_
  clear hK K
  try clear hHeld
  refine done_ (by kernel_rfl) ?_
  clear s0 s10 t5 t7 p7
  have hB4 := hB3.set 7 (.int .i64 oth)
  have u7 : (w3.setCell ⟨R.pa p, 7, none⟩ (.int .i64 oth)).cell? ⟨R.pa p, 7, none⟩ = some (.int .i64 oth) := hB4.cell 7
  have u2 : (w3.setCell ⟨R.pa p, 7, none⟩ (.int .i64 oth)).cell? ⟨R.pa p, 2, none⟩ = some (.int .i64 (H.procs p).node) := hB4.cell 2
  clear tm te nz nz' nz3 q1
  have kB : Keeps (hturnF R p) w (w3.setCell ⟨R.pa p, 7, none⟩ (.int .i64 oth)) := ((kA.drew).trans' (hK3.mono fun k hk => .inl hk)).set _ 7 (.inl (.inr rfl)) _
  have hM4 := hM3.other nP (a := ⟨R.pa p, 7, none⟩) (.int .i64 oth)
  generalize (w3.setCell ⟨R.pa p, 7, none⟩ (.int .i64 oth)) = wB at *
  go_wp2_with fail
  refine start_ (n := 16) (S := fun w' => w'.cell? ⟨R.pa p, 7, none⟩ = some (.int .i64 oth)) (ds := []) #[false, false, false, false, false, false, false, false, false, false, false, false, false, false, false, false] (by kernel_rfl) rfl rfl (u7) (fun hHeld => ?_)
  refine pure_ (i := 0) (N := some 37) (v := ?_) (a' := ?_) #[true, false, false, false, false, false, false, false, false, false, false, false, false, false, false, false] rfl rfl (by kernel_rfl) (fun _ _ _ h => h) (Or.inl ⟨by rfl, ?_⟩) ?_ ?_
  rotate_left
  · intro w'
    go_simp
    with_reducible rfl
  rotate_left
  · simp only [Act.put, nA, nB, nC, i64_w, i32_w]
    rfl
  refine pure_ (i := 1) (N := some 38) (v := ?_) (a' := ?_) #[true, true, false, false, false, false, false, false, false, false, false, false, false, false, false, false] rfl rfl (by kernel_rfl) (fun _ _ _ h => h) (Or.inl ⟨by rfl, ?_⟩) ?_ ?_
  rotate_left
  · intro w'
    go_simp
    with_reducible rfl
  rotate_left
  · simp only [Act.put, nA, nB, nC, i64_w, i32_w]
    rfl
  refine pure_ (i := 2) (N := some 39) (v := ?_) (a' := ?_) #[true, true, true, false, false, false, false, false, false, false, false, false, false, false, false, false] rfl rfl (by kernel_rfl) (fun _ _ _ h => h) (Or.inl ⟨by rfl, ?_⟩) ?_ ?_
  rotate_left
  · intro w'
    go_simp
    with_reducible rfl
  rotate_left
  · simp only [Act.put, nA, nB, nC, i64_w, i32_w]
    rfl
  refine take_ (i := 3) (N := some 40) (v := ?_) (a' := ?_) #[true, true, true, true, false, false, false, false, false, false, false, false, false, false, false, false] rfl rfl (by kernel_rfl) (fun _ _ _ h => h) (Or.inl ⟨by rfl, ?_⟩) hHeld ?_ ?_
  rotate_left
  · intro w' s0
    go_simp
    with_reducible rfl
  rotate_left
  · simp only [Act.put, nA, nB, nC, i64_w, i32_w]
    rfl
  refine pure_ (i := 4) (N := some 41) (v := ?_) (a' := ?_) #[true, true, true, true, true, false, false, false, false, false, false, false, false, false, false, false] rfl rfl (by kernel_rfl) (fun _ _ _ h => h) (Or.inl ⟨by rfl, ?_⟩) ?_ ?_
  rotate_left
  · intro w'
    go_simp
    with_reducible rfl
  rotate_left
  · simp only [Act.put, nA, nB, nC, i64_w, i32_w]
    rfl
  refine pure_ (i := 5) (N := some 42) (v := ?_) (a' := ?_) #[true, true, true, true, true, true, false, false, false, false, false, false, false, false, false, false] rfl rfl (by kernel_rfl) (fun _ _ _ h => h) (Or.inl ⟨by rfl, ?_⟩) ?_ ?_
  rotate_left
  · intro w'
    go_simp
    with_reducible rfl
  rotate_left
  · simp only [Act.put, nA, nB, nC, i64_w, i32_w]
    rfl
  refine pure_ (i := 6) (N := some 43) (v := undef) (a' := ?_) #[true, true, true, true, true, true, true, false, false, false, false, false, false, false, false, false] rfl rfl (by kernel_rfl) (fun _ _ _ h => h) (Or.inr ⟨by rfl, rfl⟩) ?_ ?_
  rotate_left
  · simp only [Act.put, nA, nB, nC, i64_w, i32_w]
    rfl
  refine pure_ (i := 7) (N := some 44) (v := undef) (a' := ?_) #[true, true, true, true, true, true, true, true, false, false, false, false, false, false, false, false] rfl rfl (by kernel_rfl) (fun _ _ _ h => h) (Or.inr ⟨by rfl, rfl⟩) ?_ ?_
  rotate_left
  · simp only [Act.put, nA, nB, nC, i64_w, i32_w]
    rfl
  refine pure_ (i := 8) (N := some 45) (v := undef) (a' := ?_) #[true, true, true, true, true, true, true, true, true, false, false, false, false, false, false, false] rfl rfl (by kernel_rfl) (fun _ _ _ h => h) (Or.inr ⟨by rfl, rfl⟩) ?_ ?_
  rotate_left
  · simp only [Act.put, nA, nB, nC, i64_w, i32_w]
    rfl
  refine pure_ (i := 9) (N := some 46) (v := undef) (a' := ?_) #[true, true, true, true, true, true, true, true, true, true, false, false, false, false, false, false] rfl rfl (by kernel_rfl) (fun _ _ _ h => h) (Or.inr ⟨by rfl, rfl⟩) ?_ ?_
  rotate_left
  · simp only [Act.put, nA, nB, nC, i64_w, i32_w]
    rfl
  refine pure_ (i := 10) (N := some 47) (v := undef) (a' := ?_) #[true, true, true, true, true, true, true, true, true, true, true, false, false, false, false, false] rfl rfl (by kernel_rfl) (fun _ _ _ h => h) (Or.inr ⟨by rfl, rfl⟩) ?_ ?_
  rotate_left
  · simp only [Act.put, nA, nB, nC, i64_w, i32_w]
    rfl
  refine pure_ (i := 11) (N := some 48) (v := undef) (a' := ?_) #[true, true, true, true, true, true, true, true, true, true, true, true, false, false, false, false] rfl rfl (by kernel_rfl) (fun _ _ _ h => h) (Or.inr ⟨by rfl, rfl⟩) ?_ ?_
  rotate_left
  · simp only [Act.put, nA, nB, nC, i64_w, i32_w]
    rfl
  refine pure_ (i := 12) (N := some 49) (v := undef) (a' := ?_) #[true, true, true, true, true, true, true, true, true, true, true, true, true, false, false, false] rfl rfl (by kernel_rfl) (fun _ _ _ h => h) (Or.inr ⟨by rfl, rfl⟩) ?_ ?_
  rotate_left
  · simp only [Act.put, nA, nB, nC, i64_w, i32_w]
    rfl
  refine pure_ (i := 13) (N := some 50) (v := undef) (a' := ?_) #[true, true, true, true, true, true, true, true, true, true, true, true, true, true, false, false] rfl rfl (by kernel_rfl) (fun _ _ _ h => h) (Or.inr ⟨by rfl, rfl⟩) ?_ ?_
  rotate_left
  · simp only [Act.put, nA, nB, nC, i64_w, i32_w]
    rfl
  refine pure_ (i := 14) (N := some 51) (v := undef) (a' := ?_) #[true, true, true, true, true, true, true, true, true, true, true, true, true, true, true, false] rfl rfl (by kernel_rfl) (fun _ _ _ h => h) (Or.inr ⟨by rfl, rfl⟩) ?_ ?_
  rotate_left
  · simp only [Act.put, nA, nB, nC, i64_w, i32_w]
    rfl
  refine pure_ (i := 15) (N := some 52) (v := ?_) (a' := ?_) #[true, true, true, true, true, true, true, true, true, true, true, true, true, true, true, true] rfl rfl (by kernel_rfl) (fun _ _ _ h => h) (Or.inl ⟨by rfl, ?_⟩) ?_ ?_
  rotate_left
  · intro w'
    go_simp
    with_reducible rfl
  rotate_left
  · simp only [Act.put, nA, nB, nC, i64_w, i32_w]
    rfl
  try clear hHeld
  refine done_ (by kernel_rfl) ?_
  clear u7 u2
  have hB5 := hB4.drew
  have c5 := hB5.cell 5
  have f5 := hB5.frozen 5
  have HC := Lib.hid c5
  clear c5
  go_wp2_with (go_at_call 78; refine (he_goes _ _ _ _ _ _ HC.out f5).mono ?_; rintro e w5 ⟨rfl, rfl⟩)
  go_ret2
  refine h.fin hp (steps := s3) ((kB.drew).set _ 5 (.inl (.inr rfl)) _) rfl (same_nodes H) (R.bef p) ?_ ?_ _
  · exact hM4.drew.other nP _
  · exact hB5.set 5 _

set_option maxRecDepth 100000 in
set_option maxHeartbeats 1600000 in
theorem he_offer_own {w : World} {base be n p : Nat} {R : HRef} {s : St} {H : HS} (h : HRep w base be R n s H) (hp : p < n) (hph : (H.procs p).ph = .offer) (hz : H.ann ((H.procs p).turn % n) ≠ 0) (hc : H.ann ((H.procs p).turn % n) = (H.procs p).node) :
    Calls Try.prog 102 #[.pointer (some ⟨R.pa p, 0, none⟩)] w (HPost w base be R n s (H.step n p).1 (.tuple #[.int .i64 0, .bool false])) := by
  have e0 : (H.step n p).1 = ⟨H.nodes, H.chain, H.ann, H.head, upd H.procs p { H.procs p with prefer := (H.procs p).node, other := H.ann ((H.procs p).turn % n), ph := .swap }⟩ := by unfold HS.step; rw [hph]; simp [HS.stp, HS.put, hc]
  rw [e0]
  clear e0
  have hx := h.proc p hp
  have p0 : w.cell? ⟨R.pa p, 0, none⟩ = some (.pointer (some ⟨be, 0, none⟩)) := hx.blk.cell 0
  have p1 : w.cell? ⟨R.pa p, 1, none⟩ = some (.int .i64 p) := hx.blk.cell 1
  have e4 : w.cell? ⟨be, 4, none⟩ = some (.pointer (some ⟨R.bm, 0, none⟩)) := h.eng.cell 4
  have e5 : w.cell? ⟨be, 5, none⟩ = some (.int .i64 0) := h.eng.cell 5
  have e6 : w.cell? ⟨be, 6, none⟩ = some (.int .i64 n) := h.eng.cell 6
  have nP := h.nP hp
  have nE := h.nE
  have hsm := h.small
  have hm := hmf
  have p2 : w.cell? ⟨R.pa p, 2, none⟩ = some (.int .i64 (H.procs p).node) := hx.blk.cell 2
  have p10 : w.cell? ⟨R.pa p, 10, none⟩ = some (.int .i64 (H.procs p).turn) := hx.blk.cell 10
  have p11 : w.cell? ⟨R.pa p, 11, none⟩ = some (.int .i64 (H.procs p).prefer) := hx.blk.cell 11
  obtain ⟨gp, cp, ep, _⟩ := own_open h.procs (by omega)
  have e7 : w.cell? ⟨be, 7, none⟩ = some (.slice (some ⟨gp, 0, none⟩) n cp) := by rw [h.eng.cell 7]; simp [hengV, ep]
  obtain ⟨rt, hrt⟩ : ∃ rt : Nat, rt = (H.procs p).turn % n := ⟨_, rfl⟩
  have hrn : rt < n := by rw [hrt]; exact Nat.mod_lt _ hsm.1
  have nz : ((n : Int) == 0) = false := by simp; omega
  have nz' : ¬ (n : Int) = 0 := by omega
  have nz3 : ¬ n = 0 := by omega
  have tm : ((H.procs p).turn : Int).tmod (n : Int) = (rt : Int) := by rw [hrt]; exact (Int.ofNat_tmod _ _).symm
  have te : ((H.procs p).turn : Int) % (n : Int) = (rt : Int) := by rw [hrt]; omega
  have q1 : IntKind.i64.wrap (rt : Int) = (rt : Int) := IntWalk.i64_in _ (by omega)
  have HW := Lib.hid (he_read (w := (w.setCell ⟨R.pa p, 11, none⟩ (.int .i64 (H.procs p).node)).drew) (H := H) (((hx.blk.set 11 _).cell 0)) (((hx.blk.set 11 _).cell 1)) ((h.eng.other (h.bne hp) _).cell 4) ((h.mach.other nP _).drew) (c := rt) (by omega) nP nE)
  rw [cval_ann hrn] at HW
  rw [← hrt] at hc ⊢
  rw [← hrt] at hz
  generalize H.ann rt = oth at *
  have d1 : ((oth : Int) == 0) = false := by simp; omega
  have d2 : ((oth : Int) == ((H.procs p).node : Int)) = true := by simp; omega
  clear hc hz
  have f11 := hx.blk.frozen 11
  have hB1 := hx.blk.set 11 (.int .i64 (H.procs p).node)
  clear hrt
  go_enter Try.func102, Try.ntmps102
  go_wp2_with fail
  have s0 : (w.setCell ⟨R.pa p, 11, none⟩ (.int .i64 (H.procs p).node)).cell? ⟨R.pa p, 0, none⟩ = some (.pointer (some ⟨be, 0, none⟩)) := hB1.cell 0
  have s10 : (w.setCell ⟨R.pa p, 11, none⟩ (.int .i64 (H.procs p).node)).cell? ⟨R.pa p, 10, none⟩ = some (.int .i64 (H.procs p).turn) := hB1.cell 10
  have t5 : (w.setCell ⟨R.pa p, 11, none⟩ (.int .i64 (H.procs p).node)).cell? ⟨be, 5, none⟩ = some (.int .i64 0) := (h.eng.other (h.bne hp) _).cell 5
  have t7 : (w.setCell ⟨R.pa p, 11, none⟩ (.int .i64 (H.procs p).node)).cell? ⟨be, 7, none⟩ = some (.slice (some ⟨gp, 0, none⟩) n cp) := by rw [(h.eng.other (h.bne hp) _).cell 7]; simp [hengV, ep]
  have kA : Keeps (hturnF R p) w (w.setCell ⟨R.pa p, 11, none⟩ (.int .i64 (H.procs p).node)) := (Keeps.refl _ _).set _ 11 (.inl (.inr rfl)) _
  clear p0 p1 p2 p10 p11 e4 e5 e6 e7 f11
  generalize (w.setCell ⟨R.pa p, 11, none⟩ (.int .i64 (H.procs p).node)) = wA at *
  refine start_ (n := 27) (S := fun w' => w'.cell? ⟨R.pa p, 0, none⟩ = some (.pointer (some ⟨be, 0, none⟩)) ∧ w'.cell? ⟨R.pa p, 10, none⟩ = some (.int .i64 (H.procs p).turn) ∧ w'.cell? ⟨be, 5, none⟩ = some (.int .i64 0) ∧ w'.cell? ⟨be, 7, none⟩ = some (.slice (some ⟨gp, 0, none⟩) n cp)) (ds := [26]) #[false, false, false, false, false, false, false, false, false, false, false, false, false, false, false, false, false, false, false, false, false, false, false, false, false, false, false] (by kernel_rfl) rfl rfl ⟨s0, s10, t5, t7⟩ (fun hHeld => ?_)
  refine pure_ (i := 0) (N := some 11) (v := ?_) (a' := ?_) #[true, false, false, false, false, false, false, false, false, false, false, false, false, false, false, false, false, false, false, false, false, false, false, false, false, false, false] rfl rfl (by kernel_rfl) (fun _ _ _ h => h) (Or.inl ⟨by rfl, ?_⟩) ?_ ?_
  rotate_left
  · intro w'
    go_simp
    with_reducible rfl
  rotate_left
  · simp only [Act.put, nA, nB, nC, i64_w, i32_w]
    rfl
  refine pure_ (i := 1) (N := some 12) (v := ?_) (a' := ?_) #[true, true, false, false, false, false, false, false, false, false, false, false, false, false, false, false, false, false, false, false, false, false, false, false, false, false, false] rfl rfl (by kernel_rfl) (fun _ _ _ h => h) (Or.inl ⟨by rfl, ?_⟩) ?_ ?_
  rotate_left
  · intro w'
    go_simp
    with_reducible rfl
  rotate_left
  · simp only [Act.put, nA, nB, nC, i64_w, i32_w]
    rfl
  refine pure_ (i := 2) (N := some 13) (v := ?_) (a' := ?_) #[true, true, true, false, false, false, false, false, false, false, false, false, false, false, false, false, false, false, false, false, false, false, false, false, false, false, false] rfl rfl (by kernel_rfl) (fun _ _ _ h => h) (Or.inl ⟨by rfl, ?_⟩) ?_ ?_
  rotate_left
  · intro w'
    go_simp
    with_reducible rfl
  rotate_left
  · simp only [Act.put, nA, nB, nC, i64_w, i32_w]
    rfl
  refine pure_ (i := 3) (N := some 14) (v := ?_) (a' := ?_) #[true, true, true, true, false, false, false, false, false, false, false, false, false, false, false, false, false, false, false, false, false, false, false, false, false, false, false] rfl rfl (by kernel_rfl) (fun _ _ _ h => h) (Or.inl ⟨by rfl, ?_⟩) ?_ ?_
  rotate_left
  · intro w'
    go_simp
    with_reducible rfl
  rotate_left
  · simp only [Act.put, nA, nB, nC, i64_w, i32_w]
    rfl
  refine pure_ (i := 4) (N := some 15) (v := ?_) (a' := ?_) #[true, true, true, true, true, false, false, false, false, false, false, false, false, false, false, false, false, false, false, false, false, false, false, false, false, false, false] rfl rfl (by kernel_rfl) (fun _ _ _ h => h) (Or.inl ⟨by rfl, ?_⟩) ?_ ?_
  rotate_left
  · intro w'
    go_simp
    with_reducible rfl
  rotate_left
  · simp only [Act.put, nA, nB, nC, i64_w, i32_w]
    rfl
  refine pure_ (i := 9) (N := some 20) (v := ?_) (a' := ?_) #[true, true, true, true, true, false, false, false, false, true, false, false, false, false, false, false, false, false, false, false, false, false, false, false, false, false, false] rfl rfl (by kernel_rfl) (fun _ _ _ h => h) (Or.inl ⟨by rfl, ?_⟩) ?_ ?_
  rotate_left
  · intro w'
    go_simp
    with_reducible rfl
  rotate_left
  · simp only [Act.put, nA, nB, nC, i64_w, i32_w]
    rfl
  refine pure_ (i := 10) (N := some 21) (v := ?_) (a' := ?_) #[true, true, true, true, true, false, false, false, false, true, true, false, false, false, false, false, false, false, false, false, false, false, false, false, false, false, false] rfl rfl (by kernel_rfl) (fun _ _ _ h => h) (Or.inl ⟨by rfl, ?_⟩) ?_ ?_
  rotate_left
  · intro w'
    go_simp
    with_reducible rfl
  rotate_left
  · simp only [Act.put, nA, nB, nC, i64_w, i32_w]
    rfl
  refine pure_ (i := 11) (N := some 22) (v := ?_) (a' := ?_) #[true, true, true, true, true, false, false, false, false, true, true, true, false, false, false, false, false, false, false, false, false, false, false, false, false, false, false] rfl rfl (by kernel_rfl) (fun _ _ _ h => h) (Or.inl ⟨by rfl, ?_⟩) ?_ ?_
  rotate_left
  · intro w'
    go_simp
    with_reducible rfl
  rotate_left
  · simp only [Act.put, nA, nB, nC, i64_w, i32_w]
    rfl
  refine pure_ (i := 13) (N := some 24) (v := ?_) (a' := ?_) #[true, true, true, true, true, false, false, false, false, true, true, true, false, true, false, false, false, false, false, false, false, false, false, false, false, false, false] rfl rfl (by kernel_rfl) (fun _ _ _ h => h) (Or.inl ⟨by rfl, ?_⟩) ?_ ?_
  rotate_left
  · intro w'
    go_simp
    with_reducible rfl
  rotate_left
  · simp only [Act.put, nA, nB, nC, i64_w, i32_w]
    rfl
  refine pure_ (i := 14) (N := some 25) (v := ?_) (a' := ?_) #[true, true, true, true, true, false, false, false, false, true, true, true, false, true, true, false, false, false, false, false, false, false, false, false, false, false, false] rfl rfl (by kernel_rfl) (fun _ _ _ h => h) (Or.inl ⟨by rfl, ?_⟩) ?_ ?_
  rotate_left
  · intro w'
    go_simp
    with_reducible rfl
  rotate_left
  · simp only [Act.put, nA, nB, nC, i64_w, i32_w]
    rfl
  refine pure_ (i := 15) (N := some 26) (v := ?_) (a' := ?_) #[true, true, true, true, true, false, false, false, false, true, true, true, false, true, true, true, false, false, false, false, false, false, false, false, false, false, false] rfl rfl (by kernel_rfl) (fun _ _ _ h => h) (Or.inl ⟨by rfl, ?_⟩) ?_ ?_
  rotate_left
  · intro w'
    go_simp
    with_reducible rfl
  rotate_left
  · simp only [Act.put, nA, nB, nC, i64_w, i32_w]
    rfl
  refine take_ (i := 5) (N := some 16) (v := ?_) (a' := ?_) #[true, true, true, true, true, true, false, false, false, true, true, true, false, true, true, true, false, false, false, false, false, false, false, false, false, false, false] rfl rfl (by kernel_rfl) (fun _ _ _ h => h) (Or.inl ⟨by rfl, ?_⟩) hHeld ?_ ?_
  rotate_left
  · rintro w' ⟨s0, s1, s2, s3⟩
    go_simp
    with_reducible rfl
  rotate_left
  · simp only [Act.put, nA, nB, nC, i64_w, i32_w]
    rfl
  refine pure_ (i := 6) (N := some 17) (v := ?_) (a' := ?_) #[true, true, true, true, true, true, true, false, false, true, true, true, false, true, true, true, false, false, false, false, false, false, false, false, false, false, false] rfl rfl (by kernel_rfl) (fun _ _ _ h => h) (Or.inl ⟨by rfl, ?_⟩) ?_ ?_
  rotate_left
  · intro w'
    go_simp
    with_reducible rfl
  rotate_left
  · simp only [Act.put, nA, nB, nC, i64_w, i32_w]
    rfl
  refine pure_ (i := 7) (N := some 18) (v := ?_) (a' := ?_) #[true, true, true, true, true, true, true, true, false, true, true, true, false, true, true, true, false, false, false, false, false, false, false, false, false, false, false] rfl rfl (by kernel_rfl) (fun _ _ _ h => h) (Or.inl ⟨by rfl, ?_⟩) ?_ ?_
  rotate_left
  · intro w'
    go_simp
    with_reducible rfl
  rotate_left
  · simp only [Act.put, nA, nB, nC, i64_w, i32_w]
    rfl
  refine take_ (i := 8) (N := some 19) (v := ?_) (a' := ?_) #[true, true, true, true, true, true, true, true, true, true, true, true, false, true, true, true, false, false, false, false, false, false, false, false, false, false, false] rfl rfl (by kernel_rfl) (fun _ _ _ h => h) (Or.inl ⟨by rfl, ?_⟩) hHeld ?_ ?_
  rotate_left
  · rintro w' ⟨s0, s1, s2, s3⟩
    go_simp
    with_reducible rfl
  rotate_left
  · simp only [Act.put, nA, nB, nC, i64_w, i32_w]
    rfl
  refine take_ (i := 12) (N := some 23) (v := ?_) (a' := ?_) #[true, true, true, true, true, true, true, true, true, true, true, true, true, true, true, true, false, false, false, false, false, false, false, false, false, false, false] rfl rfl (by kernel_rfl) (fun _ _ _ h => h) (Or.inl ⟨by rfl, ?_⟩) hHeld ?_ ?_
  rotate_left
  · rintro w' ⟨s0, s1, s2, s3⟩
    go_simp
    with_reducible rfl
  rotate_left
  · simp only [Act.put, nA, nB, nC, i64_w, i32_w]
    rfl
  refine take_ (i := 16) (N := some 27) (v := ?_) (a' := ?_) #[true, true, true, true, true, true, true, true, true, true, true, true, true, true, true, true, true, false, false, false, false, false, false, false, false, false, false] rfl rfl (by kernel_rfl) (fun _ _ _ h => h) (Or.inl ⟨by rfl, ?_⟩) hHeld ?_ ?_
  rotate_left
  · rintro w' ⟨s0, s1, s2, s3⟩
    go_simp
    with_reducible rfl
  rotate_left
  · simp only [Act.put, nA, nB, nC, i64_w, i32_w]
    rfl
  refine pure_ (i := 17) (N := some 28) (v := ?_) (a' := ?_) #[true, true, true, true, true, true, true, true, true, true, true, true, true, true, true, true, true, true, false, false, false, false, false, false, false, false, false] rfl rfl (by kernel_rfl) (fun _ _ _ h => h) (Or.inl ⟨by rfl, ?_⟩) ?_ ?_
  rotate_left
  · intro w'
    go_simp
    with_reducible rfl
  rotate_left
  · simp only [Act.put, nA, nB, nC, i64_w, i32_w]
    rfl
  refine pure_ (i := 18) (N := some 29) (v := ?_) (a' := ?_) #[true, true, true, true, true, true, true, true, true, true, true, true, true, true, true, true, true, true, true, false, false, false, false, false, false, false, false] rfl rfl (by kernel_rfl) (fun _ _ _ h => h) (Or.inl ⟨by rfl, ?_⟩) ?_ ?_
  rotate_left
  · intro w'
    go_simp
    with_reducible rfl
  rotate_left
  · simp only [Act.put, nA, nB, nC, i64_w, i32_w]
    rfl
  refine take_ (i := 19) (N := some 30) (v := ?_) (a' := ?_) #[true, true, true, true, true, true, true, true, true, true, true, true, true, true, true, true, true, true, true, true, false, false, false, false, false, false, false] rfl rfl (by kernel_rfl) (fun _ _ _ h => h) (Or.inl ⟨by rfl, ?_⟩) hHeld ?_ ?_
  rotate_left
  · rintro w' ⟨s0, s1, s2, s3⟩
    go_simp
    with_reducible rfl
  rotate_left
  · simp only [Act.put, nA, nB, nC, i64_w, i32_w]
    rfl
  refine pure_ (i := 20) (N := some 31) (v := ?_) (a' := ?_) #[true, true, true, true, true, true, true, true, true, true, true, true, true, true, true, true, true, true, true, true, true, false, false, false, false, false, false] rfl rfl (by kernel_rfl) (fun _ _ _ h => h) (Or.inl ⟨by rfl, ?_⟩) ?_ ?_
  rotate_left
  · intro w'
    go_simp
    with_reducible rfl
  rotate_left
  · simp only [Act.put, nA, nB, nC, i64_w, i32_w]
    rfl
  refine pure_ (i := 21) (N := some 32) (v := ?_) (a' := ?_) #[true, true, true, true, true, true, true, true, true, true, true, true, true, true, true, true, true, true, true, true, true, true, false, false, false, false, false] rfl rfl (by kernel_rfl) (fun _ _ _ h => h) (Or.inl ⟨by rfl, ?_⟩) ?_ ?_
  rotate_left
  · intro w'
    go_simp
    with_reducible rfl
  rotate_left
  · simp only [Act.put, nA, nB, nC, i64_w, i32_w]
    rfl
  refine pure_ (i := 22) (N := some 33) (v := ?_) (a' := ?_) #[true, true, true, true, true, true, true, true, true, true, true, true, true, true, true, true, true, true, true, true, true, true, true, false, false, false, false] rfl rfl (by kernel_rfl) (fun _ _ _ h => h) (Or.inl ⟨by rfl, ?_⟩) ?_ ?_
  rotate_left
  · intro w'
    go_simp
    with_reducible rfl
  rotate_left
  · simp only [Act.put, nA, nB, nC, i64_w, i32_w]
    rfl
  refine one_ (i := 23) (N := some 34) #[true, true, true, true, true, true, true, true, true, true, true, true, true, true, true, true, true, true, true, true, true, true, true, true, false, false, false] rfl rfl (by kernel_rfl) (by decide) (fun K hK => ?_)
  refine goes_ Try.func88 (by kernel_rfl) rfl #[.pointer (some ⟨R.pa p, 0, none⟩), .int .i64 rt] (by rfl) rfl rfl (by simp only [List.map_toArray, List.map_cons, List.map_nil]; rfl) ?_
  with_reducible refine (HW.out).mono ?_
  rintro e w3 ⟨rfl, ⟨s3, hM3⟩, hK3⟩
  refine ⟨_, rfl, ?_⟩
  have hB3 := hB1.drew.keeps hK3 nP
  have p7 : w3.cell? ⟨R.pa p, 7, none⟩ = some (.int .i64 (H.procs p).other) := hB3.cell 7
  have f7 := hB3.frozen 7
  try clear hHeld
  refine hK.out _ _ ⟨hK3.cellSome nP s0, hK3.cellSome nP s10, hK3.cellSome nE t5, hK3.cellSome nE t7⟩ (fun hHeld => ?_)
  clear hK K
  refine norm_ (a' := ?_) ?_ ?_
  rotate_left
  · show Act.put _ (some 34) _ = _
    simp only [Act.put, nA, nB, nC, i64_w, i32_w]
    rfl
  refine pure_ (i := 24) (N := some 35) (v := ?_) (a' := ?_) #[true, true, true, true, true, true, true, true, true, true, true, true, true, true, true, true, true, true, true, true, true, true, true, true, true, false, false] rfl rfl (by kernel_rfl) (fun _ _ _ h => h) (Or.inl ⟨by rfl, ?_⟩) ?_ ?_
  rotate_left
  · intro w'
    go_simp
    with_reducible rfl
  rotate_left
  · simp only [Act.put, nA, nB, nC, i64_w, i32_w]
    rfl
  refine pure_ (i := 25) (N := some 36) (v := ?_) (a' := ?_) #[true, true, true, true, true, true, true, true, true, true, true, true, true, true, true, true, true, true, true, true, true, true, true, true, true, true, false] rfl rfl (by kernel_rfl) (fun _ _ _ h => h) (Or.inl ⟨by rfl, ?_⟩) ?_ ?_
  rotate_left
  · intro w'
    go_simp
    with_reducible rfl
  rotate_left
  · simp only [Act.put, nA, nB, nC, i64_w, i32_w]
    rfl
  refine last_ (i := 26) (N := none) #[true, true, true, true, true, true, true, true, true, true, true, true, true, true, true, true, true, true, true, true, true, true, true, true, true, true, true] rfl rfl (by kernel_rfl) (by decide) (fun K hK => ?_)
  refine skip_ (w1 := ?_) (by rfl) rfl ?_ ?_
  rotate_left
  · go_simp
    rfl
  try clear hHeld
  refine hK.out _ _ ?_
  clear hK K
  try clear hHeld
  refine done_ (by kernel_rfl) ?_
  clear s0 s10 t5 t7 p7
  have hB4 := hB3.set 7 (.int .i64 oth)
  have u7 : (w3.setCell ⟨R.pa p, 7, none⟩ (.int .i64 oth)).cell? ⟨R.pa p, 7, none⟩ = some (.int .i64 oth) := hB4.cell 7
  have u2 : (w3.setCell ⟨R.pa p, 7, none⟩ (.int .i64 oth)).cell? ⟨R.pa p, 2, none⟩ = some (.int .i64 (H.procs p).node) := hB4.cell 2
  clear tm te nz nz' nz3 q1
  have kB : Keeps (hturnF R p) w (w3.setCell ⟨R.pa p, 7, none⟩ (.int .i64 oth)) := ((kA.drew).trans' (hK3.mono fun k hk => .inl hk)).set _ 7 (.inl (.inr rfl)) _
  have hM4 := hM3.other nP (a := ⟨R.pa p, 7, none⟩) (.int .i64 oth)
  generalize (w3.setCell ⟨R.pa p, 7, none⟩ (.int .i64 oth)) = wB at *
  go_wp2_with fail
  refine start_ (n := 16) (S := fun w' => w'.cell? ⟨R.pa p, 7, none⟩ = some (.int .i64 oth) ∧ w'.cell? ⟨R.pa p, 2, none⟩ = some (.int .i64 (H.procs p).node)) (ds := []) #[false, false, false, false, false, false, false, false, false, false, false, false, false, false, false, false] (by kernel_rfl) rfl rfl ⟨u7, u2⟩ (fun hHeld => ?_)
  refine pure_ (i := 0) (N := some 37) (v := ?_) (a' := ?_) #[true, false, false, false, false, false, false, false, false, false, false, false, false, false, false, false] rfl rfl (by kernel_rfl) (fun _ _ _ h => h) (Or.inl ⟨by rfl, ?_⟩) ?_ ?_
  rotate_left
  · intro w'
    go_simp
    with_reducible rfl
  rotate_left
  · simp only [Act.put, nA, nB, nC, i64_w, i32_w]
    rfl
  refine pure_ (i := 1) (N := some 38) (v := ?_) (a' := ?_) #[true, true, false, false, false, false, false, false, false, false, false, false, false, false, false, false] rfl rfl (by kernel_rfl) (fun _ _ _ h => h) (Or.inl ⟨by rfl, ?_⟩) ?_ ?_
  rotate_left
  · intro w'
    go_simp
    with_reducible rfl
  rotate_left
  · simp only [Act.put, nA, nB, nC, i64_w, i32_w]
    rfl
  refine pure_ (i := 2) (N := some 39) (v := ?_) (a' := ?_) #[true, true, true, false, false, false, false, false, false, false, false, false, false, false, false, false] rfl rfl (by kernel_rfl) (fun _ _ _ h => h) (Or.inl ⟨by rfl, ?_⟩) ?_ ?_
  rotate_left
  · intro w'
    go_simp
    with_reducible rfl
  rotate_left
  · simp only [Act.put, nA, nB, nC, i64_w, i32_w]
    rfl
  refine take_ (i := 3) (N := some 40) (v := ?_) (a' := ?_) #[true, true, true, true, false, false, false, false, false, false, false, false, false, false, false, false] rfl rfl (by kernel_rfl) (fun _ _ _ h => h) (Or.inl ⟨by rfl, ?_⟩) hHeld ?_ ?_
  rotate_left
  · rintro w' ⟨s0, s1⟩
    go_simp
    with_reducible rfl
  rotate_left
  · simp only [Act.put, nA, nB, nC, i64_w, i32_w]
    rfl
  refine pure_ (i := 4) (N := some 41) (v := ?_) (a' := ?_) #[true, true, true, true, true, false, false, false, false, false, false, false, false, false, false, false] rfl rfl (by kernel_rfl) (fun _ _ _ h => h) (Or.inl ⟨by rfl, ?_⟩) ?_ ?_
  rotate_left
  · intro w'
    go_simp
    with_reducible rfl
  rotate_left
  · simp only [Act.put, nA, nB, nC, i64_w, i32_w]
    rfl
  refine pure_ (i := 5) (N := some 42) (v := ?_) (a' := ?_) #[true, true, true, true, true, true, false, false, false, false, false, false, false, false, false, false] rfl rfl (by kernel_rfl) (fun _ _ _ h => h) (Or.inl ⟨by rfl, ?_⟩) ?_ ?_
  rotate_left
  · intro w'
    go_simp
    with_reducible rfl
  rotate_left
  · simp only [Act.put, nA, nB, nC, i64_w, i32_w]
    rfl
  refine pure_ (i := 6) (N := some 43) (v := ?_) (a' := ?_) #[true, true, true, true, true, true, true, false, false, false, false, false, false, false, false, false] rfl rfl (by kernel_rfl) (fun _ _ _ h => h) (Or.inl ⟨by rfl, ?_⟩) ?_ ?_
  rotate_left
  · intro w'
    go_simp
    with_reducible rfl
  rotate_left
  · simp only [Act.put, nA, nB, nC, i64_w, i32_w]
    rfl
  refine pure_ (i := 7) (N := some 44) (v := ?_) (a' := ?_) #[true, true, true, true, true, true, true, true, false, false, false, false, false, false, false, false] rfl rfl (by kernel_rfl) (fun _ _ _ h => h) (Or.inl ⟨by rfl, ?_⟩) ?_ ?_
  rotate_left
  · intro w'
    go_simp
    with_reducible rfl
  rotate_left
  · simp only [Act.put, nA, nB, nC, i64_w, i32_w]
    rfl
  refine pure_ (i := 8) (N := some 45) (v := ?_) (a' := ?_) #[true, true, true, true, true, true, true, true, true, false, false, false, false, false, false, false] rfl rfl (by kernel_rfl) (fun _ _ _ h => h) (Or.inl ⟨by rfl, ?_⟩) ?_ ?_
  rotate_left
  · intro w'
    go_simp
    with_reducible rfl
  rotate_left
  · simp only [Act.put, nA, nB, nC, i64_w, i32_w]
    rfl
  refine pure_ (i := 10) (N := some 47) (v := ?_) (a' := ?_) #[true, true, true, true, true, true, true, true, true, false, true, false, false, false, false, false] rfl rfl (by kernel_rfl) (fun _ _ _ h => h) (Or.inl ⟨by rfl, ?_⟩) ?_ ?_
  rotate_left
  · intro w'
    go_simp
    with_reducible rfl
  rotate_left
  · simp only [Act.put, nA, nB, nC, i64_w, i32_w]
    rfl
  refine pure_ (i := 11) (N := some 48) (v := ?_) (a' := ?_) #[true, true, true, true, true, true, true, true, true, false, true, true, false, false, false, false] rfl rfl (by kernel_rfl) (fun _ _ _ h => h) (Or.inl ⟨by rfl, ?_⟩) ?_ ?_
  rotate_left
  · intro w'
    go_simp
    with_reducible rfl
  rotate_left
  · simp only [Act.put, nA, nB, nC, i64_w, i32_w]
    rfl
  refine pure_ (i := 12) (N := some 49) (v := ?_) (a' := ?_) #[true, true, true, true, true, true, true, true, true, false, true, true, true, false, false, false] rfl rfl (by kernel_rfl) (fun _ _ _ h => h) (Or.inl ⟨by rfl, ?_⟩) ?_ ?_
  rotate_left
  · intro w'
    go_simp
    with_reducible rfl
  rotate_left
  · simp only [Act.put, nA, nB, nC, i64_w, i32_w]
    rfl
  refine take_ (i := 9) (N := some 46) (v := ?_) (a' := ?_) #[true, true, true, true, true, true, true, true, true, true, true, true, true, false, false, false] rfl rfl (by kernel_rfl) (fun _ _ _ h => h) (Or.inl ⟨by rfl, ?_⟩) hHeld ?_ ?_
  rotate_left
  · rintro w' ⟨s0, s1⟩
    go_simp
    with_reducible rfl
  rotate_left
  · simp only [Act.put, nA, nB, nC, i64_w, i32_w]
    rfl
  refine take_ (i := 13) (N := some 50) (v := ?_) (a' := ?_) #[true, true, true, true, true, true, true, true, true, true, true, true, true, true, false, false] rfl rfl (by kernel_rfl) (fun _ _ _ h => h) (Or.inl ⟨by rfl, ?_⟩) hHeld ?_ ?_
  rotate_left
  · rintro w' ⟨s0, s1⟩
    go_simp
    with_reducible rfl
  rotate_left
  · simp only [Act.put, nA, nB, nC, i64_w, i32_w]
    rfl
  refine pure_ (i := 14) (N := some 51) (v := ?_) (a' := ?_) #[true, true, true, true, true, true, true, true, true, true, true, true, true, true, true, false] rfl rfl (by kernel_rfl) (fun _ _ _ h => h) (Or.inl ⟨by rfl, ?_⟩) ?_ ?_
  rotate_left
  · intro w'
    go_simp
    with_reducible rfl
  rotate_left
  · simp only [Act.put, nA, nB, nC, i64_w, i32_w]
    rfl
  refine pure_ (i := 15) (N := some 52) (v := ?_) (a' := ?_) #[true, true, true, true, true, true, true, true, true, true, true, true, true, true, true, true] rfl rfl (by kernel_rfl) (fun _ _ _ h => h) (Or.inl ⟨by rfl, ?_⟩) ?_ ?_
  rotate_left
  · intro w'
    go_simp
    with_reducible rfl
  rotate_left
  · simp only [Act.put, nA, nB, nC, i64_w, i32_w]
    rfl
  try clear hHeld
  refine done_ (by kernel_rfl) ?_
  clear u7 u2
  have hB5 := hB4.drew
  have c5 := hB5.cell 5
  have f5 := hB5.frozen 5
  have HC := Lib.hid c5
  clear c5
  go_wp2_with (go_at_call 78; refine (he_goes _ _ _ _ _ _ HC.out f5).mono ?_; rintro e w5 ⟨rfl, rfl⟩)
  go_ret2
  refine h.fin hp (steps := s3) ((kB.drew).set _ 5 (.inl (.inr rfl)) _) rfl (same_nodes H) (R.bef p) ?_ ?_ _
  · exact hM4.drew.other nP _
  · exact hB5.set 5 _

set_option maxRecDepth 100000 in
set_option maxHeartbeats 1600000 in
theorem he_offer_else {w : World} {base be n p : Nat} {R : HRef} {s : St} {H : HS} (h : HRep w base be R n s H) (hp : p < n) (hph : (H.procs p).ph = .offer) (hz : H.ann ((H.procs p).turn % n) ≠ 0) (hc : H.ann ((H.procs p).turn % n) ≠ (H.procs p).node) :
    Calls Try.prog 102 #[.pointer (some ⟨R.pa p, 0, none⟩)] w (HPost w base be R n s (H.step n p).1 (.tuple #[.int .i64 0, .bool false])) := by
  have e0 : (H.step n p).1 = ⟨H.nodes, H.chain, H.ann, H.head, upd H.procs p { H.procs p with prefer := (H.procs p).node, other := H.ann ((H.procs p).turn % n), ph := .check }⟩ := by unfold HS.step; rw [hph]; simp [HS.stp, HS.put, hz, hc]
  rw [e0]
  clear e0
  have hx := h.proc p hp
  have p0 : w.cell? ⟨R.pa p, 0, none⟩ = some (.pointer (some ⟨be, 0, none⟩)) := hx.blk.cell 0
  have p1 : w.cell? ⟨R.pa p, 1, none⟩ = some (.int .i64 p) := hx.blk.cell 1
  have e4 : w.cell? ⟨be, 4, none⟩ = some (.pointer (some ⟨R.bm, 0, none⟩)) := h.eng.cell 4
  have e5 : w.cell? ⟨be, 5, none⟩ = some (.int .i64 0) := h.eng.cell 5
  have e6 : w.cell? ⟨be, 6, none⟩ = some (.int .i64 n) := h.eng.cell 6
  have nP := h.nP hp
  have nE := h.nE
  have hsm := h.small
  have hm := hmf
  have p2 : w.cell? ⟨R.pa p, 2, none⟩ = some (.int .i64 (H.procs p).node) := hx.blk.cell 2
  have p10 : w.cell? ⟨R.pa p, 10, none⟩ = some (.int .i64 (H.procs p).turn) := hx.blk.cell 10
  have p11 : w.cell? ⟨R.pa p, 11, none⟩ = some (.int .i64 (H.procs p).prefer) := hx.blk.cell 11
  obtain ⟨gp, cp, ep, _⟩ := own_open h.procs (by omega)
  have e7 : w.cell? ⟨be, 7, none⟩ = some (.slice (some ⟨gp, 0, none⟩) n cp) := by rw [h.eng.cell 7]; simp [hengV, ep]
  obtain ⟨rt, hrt⟩ : ∃ rt : Nat, rt = (H.procs p).turn % n := ⟨_, rfl⟩
  have hrn : rt < n := by rw [hrt]; exact Nat.mod_lt _ hsm.1
  have nz : ((n : Int) == 0) = false := by simp; omega
  have nz' : ¬ (n : Int) = 0 := by omega
  have nz3 : ¬ n = 0 := by omega
  have tm : ((H.procs p).turn : Int).tmod (n : Int) = (rt : Int) := by rw [hrt]; exact (Int.ofNat_tmod _ _).symm
  have te : ((H.procs p).turn : Int) % (n : Int) = (rt : Int) := by rw [hrt]; omega
  have q1 : IntKind.i64.wrap (rt : Int) = (rt : Int) := IntWalk.i64_in _ (by omega)
  have HW := Lib.hid (he_read (w := (w.setCell ⟨R.pa p, 11, none⟩ (.int .i64 (H.procs p).node)).drew) (H := H) (((hx.blk.set 11 _).cell 0)) (((hx.blk.set 11 _).cell 1)) ((h.eng.other (h.bne hp) _).cell 4) ((h.mach.other nP _).drew) (c := rt) (by omega) nP nE)
  rw [cval_ann hrn] at HW
  rw [← hrt] at hc ⊢
  rw [← hrt] at hz
  generalize H.ann rt = oth at *
  have d1 : ((oth : Int) == 0) = false := by simp; omega
  have d2 : ((oth : Int) == ((H.procs p).node : Int)) = false := by simp; omega
  clear hc hz
  have f11 := hx.blk.frozen 11
  have hB1 := hx.blk.set 11 (.int .i64 (H.procs p).node)
  clear hrt
  go_enter Try.func102, Try.ntmps102
  go_wp2_with fail
  have s0 : (w.setCell ⟨R.pa p, 11, none⟩ (.int .i64 (H.procs p).node)).cell? ⟨R.pa p, 0, none⟩ = some (.pointer (some ⟨be, 0, none⟩)) := hB1.cell 0
  have s10 : (w.setCell ⟨R.pa p, 11, none⟩ (.int .i64 (H.procs p).node)).cell? ⟨R.pa p, 10, none⟩ = some (.int .i64 (H.procs p).turn) := hB1.cell 10
  have t5 : (w.setCell ⟨R.pa p, 11, none⟩ (.int .i64 (H.procs p).node)).cell? ⟨be, 5, none⟩ = some (.int .i64 0) := (h.eng.other (h.bne hp) _).cell 5
  have t7 : (w.setCell ⟨R.pa p, 11, none⟩ (.int .i64 (H.procs p).node)).cell? ⟨be, 7, none⟩ = some (.slice (some ⟨gp, 0, none⟩) n cp) := by rw [(h.eng.other (h.bne hp) _).cell 7]; simp [hengV, ep]
  have kA : Keeps (hturnF R p) w (w.setCell ⟨R.pa p, 11, none⟩ (.int .i64 (H.procs p).node)) := (Keeps.refl _ _).set _ 11 (.inl (.inr rfl)) _
  clear p0 p1 p2 p10 p11 e4 e5 e6 e7 f11
  generalize (w.setCell ⟨R.pa p, 11, none⟩ (.int .i64 (H.procs p).node)) = wA at *
  refine start_ (n := 27) (S := fun w' => w'.cell? ⟨R.pa p, 0, none⟩ = some (.pointer (some ⟨be, 0, none⟩)) ∧ w'.cell? ⟨R.pa p, 10, none⟩ = some (.int .i64 (H.procs p).turn) ∧ w'.cell? ⟨be, 5, none⟩ = some (.int .i64 0) ∧ w'.cell? ⟨be, 7, none⟩ = some (.slice (some ⟨gp, 0, none⟩) n cp)) (ds := [26]) #[false, false, false, false, false, false, false, false, false, false, false, false, false, false, false, false, false, false, false, false, false, false, false, false, false, false, false] (by kernel_rfl) rfl rfl ⟨s0, s10, t5, t7⟩ (fun hHeld => ?_)
  refine pure_ (i := 0) (N := some 11) (v := ?_) (a' := ?_) #[true, false, false, false, false, false, false, false, false, false, false, false, false, false, false, false, false, false, false, false, false, false, false, false, false, false, false] rfl rfl (by kernel_rfl) (fun _ _ _ h => h) (Or.inl ⟨by rfl, ?_⟩) ?_ ?_
  rotate_left
  · intro w'
    go_simp
    with_reducible rfl
  rotate_left
  · simp only [Act.put, nA, nB, nC, i64_w, i32_w]
    rfl
  refine pure_ (i := 1) (N := some 12) (v := ?_) (a' := ?_) #[true, true, false, false, false, false, false, false, false, false, false, false, false, false, false, false, false, false, false, false, false, false, false, false, false, false, false] rfl rfl (by kernel_rfl) (fun _ _ _ h => h) (Or.inl ⟨by rfl, ?_⟩) ?_ ?_
  rotate_left
  · intro w'
    go_simp
    with_reducible rfl
  rotate_left
  · simp only [Act.put, nA, nB, nC, i64_w, i32_w]
    rfl
  refine pure_ (i := 2) (N := some 13) (v := ?_) (a' := ?_) #[true, true, true, false, false, false, false, false, false, false, false, false, false, false, false, false, false, false, false, false, false, false, false, false, false, false, false] rfl rfl (by kernel_rfl) (fun _ _ _ h => h) (Or.inl ⟨by rfl, ?_⟩) ?_ ?_
  rotate_left
  · intro w'
    go_simp
    with_reducible rfl
  rotate_left
  · simp only [Act.put, nA, nB, nC, i64_w, i32_w]
    rfl
  refine pure_ (i := 3) (N := some 14) (v := ?_) (a' := ?_) #[true, true, true, true, false, false, false, false, false, false, false, false, false, false, false, false, false, false, false, false, false, false, false, false, false, false, false] rfl rfl (by kernel_rfl) (fun _ _ _ h => h) (Or.inl ⟨by rfl, ?_⟩) ?_ ?_
  rotate_left
  · intro w'
    go_simp
    with_reducible rfl
  rotate_left
  · simp only [Act.put, nA, nB, nC, i64_w, i32_w]
    rfl
  refine pure_ (i := 4) (N := some 15) (v := ?_) (a' := ?_) #[true, true, true, true, true, false, false, false, false, false, false, false, false, false, false, false, false, false, false, false, false, false, false, false, false, false, false] rfl rfl (by kernel_rfl) (fun _ _ _ h => h) (Or.inl ⟨by rfl, ?_⟩) ?_ ?_
  rotate_left
  · intro w'
    go_simp
    with_reducible rfl
  rotate_left
  · simp only [Act.put, nA, nB, nC, i64_w, i32_w]
    rfl
  refine pure_ (i := 9) (N := some 20) (v := ?_) (a' := ?_) #[true, true, true, true, true, false, false, false, false, true, false, false, false, false, false, false, false, false, false, false, false, false, false, false, false, false, false] rfl rfl (by kernel_rfl) (fun _ _ _ h => h) (Or.inl ⟨by rfl, ?_⟩) ?_ ?_
  rotate_left
  · intro w'
    go_simp
    with_reducible rfl
  rotate_left
  · simp only [Act.put, nA, nB, nC, i64_w, i32_w]
    rfl
  refine pure_ (i := 10) (N := some 21) (v := ?_) (a' := ?_) #[true, true, true, true, true, false, false, false, false, true, true, false, false, false, false, false, false, false, false, false, false, false, false, false, false, false, false] rfl rfl (by kernel_rfl) (fun _ _ _ h => h) (Or.inl ⟨by rfl, ?_⟩) ?_ ?_
  rotate_left
  · intro w'
    go_simp
    with_reducible rfl
  rotate_left
  · simp only [Act.put, nA, nB, nC, i64_w, i32_w]
    rfl
  refine pure_ (i := 11) (N := some 22) (v := ?_) (a' := ?_) #[true, true, true, true, true, false, false, false, false, true, true, true, false, false, false, false, false, false, false, false, false, false, false, false, false, false, false] rfl rfl (by kernel_rfl) (fun _ _ _ h => h) (Or.inl ⟨by rfl, ?_⟩) ?_ ?_
  rotate_left
  · intro w'
    go_simp
    with_reducible rfl
  rotate_left
  · simp only [Act.put, nA, nB, nC, i64_w, i32_w]
    rfl
  refine pure_ (i := 13) (N := some 24) (v := ?_) (a' := ?_) #[true, true, true, true, true, false, false, false, false, true, true, true, false, true, false, false, false, false, false, false, false, false, false, false, false, false, false] rfl rfl (by kernel_rfl) (fun _ _ _ h => h) (Or.inl ⟨by rfl, ?_⟩) ?_ ?_
  rotate_left
  · intro w'
    go_simp
    with_reducible rfl
  rotate_left
  · simp only [Act.put, nA, nB, nC, i64_w, i32_w]
    rfl
  refine pure_ (i := 14) (N := some 25) (v := ?_) (a' := ?_) #[true, true, true, true, true, false, false, false, false, true, true, true, false, true, true, false, false, false, false, false, false, false, false, false, false, false, false] rfl rfl (by kernel_rfl) (fun _ _ _ h => h) (Or.inl ⟨by rfl, ?_⟩) ?_ ?_
  rotate_left
  · intro w'
    go_simp
    with_reducible rfl
  rotate_left
  · simp only [Act.put, nA, nB, nC, i64_w, i32_w]
    rfl
  refine pure_ (i := 15) (N := some 26) (v := ?_) (a' := ?_) #[true, true, true, true, true, false, false, false, false, true, true, true, false, true, true, true, false, false, false, false, false, false, false, false, false, false, false] rfl rfl (by kernel_rfl) (fun _ _ _ h => h) (Or.inl ⟨by rfl, ?_⟩) ?_ ?_
  rotate_left
  · intro w'
    go_simp
    with_reducible rfl
  rotate_left
  · simp only [Act.put, nA, nB, nC, i64_w, i32_w]
    rfl
  refine take_ (i := 5) (N := some 16) (v := ?_) (a' := ?_) #[true, true, true, true, true, true, false, false, false, true, true, true, false, true, true, true, false, false, false, false, false, false, false, false, false, false, false] rfl rfl (by kernel_rfl) (fun _ _ _ h => h) (Or.inl ⟨by rfl, ?_⟩) hHeld ?_ ?_
  rotate_left
  · rintro w' ⟨s0, s1, s2, s3⟩
    go_simp
    with_reducible rfl
  rotate_left
  · simp only [Act.put, nA, nB, nC, i64_w, i32_w]
    rfl
  refine pure_ (i := 6) (N := some 17) (v := ?_) (a' := ?_) #[true, true, true, true, true, true, true, false, false, true, true, true, false, true, true, true, false, false, false, false, false, false, false, false, false, false, false] rfl rfl (by kernel_rfl) (fun _ _ _ h => h) (Or.inl ⟨by rfl, ?_⟩) ?_ ?_
  rotate_left
  · intro w'
    go_simp
    with_reducible rfl
  rotate_left
  · simp only [Act.put, nA, nB, nC, i64_w, i32_w]
    rfl
  refine pure_ (i := 7) (N := some 18) (v := ?_) (a' := ?_) #[true, true, true, true, true, true, true, true, false, true, true, true, false, true, true, true, false, false, false, false, false, false, false, false, false, false, false] rfl rfl (by kernel_rfl) (fun _ _ _ h => h) (Or.inl ⟨by rfl, ?_⟩) ?_ ?_
  rotate_left
  · intro w'
    go_simp
    with_reducible rfl
  rotate_left
  · simp only [Act.put, nA, nB, nC, i64_w, i32_w]
    rfl
  refine take_ (i := 8) (N := some 19) (v := ?_) (a' := ?_) #[true, true, true, true, true, true, true, true, true, true, true, true, false, true, true, true, false, false, false, false, false, false, false, false, false, false, false] rfl rfl (by kernel_rfl) (fun _ _ _ h => h) (Or.inl ⟨by rfl, ?_⟩) hHeld ?_ ?_
  rotate_left
  · rintro w' ⟨s0, s1, s2, s3⟩
    go_simp
    with_reducible rfl
  rotate_left
  · simp only [Act.put, nA, nB, nC, i64_w, i32_w]
    rfl
  refine take_ (i := 12) (N := some 23) (v := ?_) (a' := ?_) #[true, true, true, true, true, true, true, true, true, true, true, true, true, true, true, true, false, false, false, false, false, false, false, false, false, false, false] rfl rfl (by kernel_rfl) (fun _ _ _ h => h) (Or.inl ⟨by rfl, ?_⟩) hHeld ?_ ?_
  rotate_left
  · rintro w' ⟨s0, s1, s2, s3⟩
    go_simp
    with_reducible rfl
  rotate_left
  · simp only [Act.put, nA, nB, nC, i64_w, i32_w]
    rfl
  refine take_ (i := 16) (N := some 27) (v := ?_) (a' := ?_) #[true, true, true, true, true, true, true, true, true, true, true, true, true, true, true, true, true, false, false, false, false, false, false, false, false, false, false] rfl rfl (by kernel_rfl) (fun _ _ _ h => h) (Or.inl ⟨by rfl, ?_⟩) hHeld ?_ ?_
  rotate_left
  · rintro w' ⟨s0, s1, s2, s3⟩
    go_simp
    with_reducible rfl
  rotate_left
  · simp only [Act.put, nA, nB, nC, i64_w, i32_w]
    rfl
  refine pure_ (i := 17) (N := some 28) (v := ?_) (a' := ?_) #[true, true, true, true, true, true, true, true, true, true, true, true, true, true, true, true, true, true, false, false, false, false, false, false, false, false, false] rfl rfl (by kernel_rfl) (fun _ _ _ h => h) (Or.inl ⟨by rfl, ?_⟩) ?_ ?_
  rotate_left
  · intro w'
    go_simp
    with_reducible rfl
  rotate_left
  · simp only [Act.put, nA, nB, nC, i64_w, i32_w]
    rfl
  refine pure_ (i := 18) (N := some 29) (v := ?_) (a' := ?_) #[true, true, true, true, true, true, true, true, true, true, true, true, true, true, true, true, true, true, true, false, false, false, false, false, false, false, false] rfl rfl (by kernel_rfl) (fun _ _ _ h => h) (Or.inl ⟨by rfl, ?_⟩) ?_ ?_
  rotate_left
  · intro w'
    go_simp
    with_reducible rfl
  rotate_left
  · simp only [Act.put, nA, nB, nC, i64_w, i32_w]
    rfl
  refine take_ (i := 19) (N := some 30) (v := ?_) (a' := ?_) #[true, true, true, true, true, true, true, true, true, true, true, true, true, true, true, true, true, true, true, true, false, false, false, false, false, false, false] rfl rfl (by kernel_rfl) (fun _ _ _ h => h) (Or.inl ⟨by rfl, ?_⟩) hHeld ?_ ?_
  rotate_left
  · rintro w' ⟨s0, s1, s2, s3⟩
    go_simp
    with_reducible rfl
  rotate_left
  · simp only [Act.put, nA, nB, nC, i64_w, i32_w]
    rfl
  refine pure_ (i := 20) (N := some 31) (v := ?_) (a' := ?_) #[true, true, true, true, true, true, true, true, true, true, true, true, true, true, true, true, true, true, true, true, true, false, false, false, false, false, false] rfl rfl (by kernel_rfl) (fun _ _ _ h => h) (Or.inl ⟨by rfl, ?_⟩) ?_ ?_
  rotate_left
  · intro w'
    go_simp
    with_reducible rfl
  rotate_left
  · simp only [Act.put, nA, nB, nC, i64_w, i32_w]
    rfl
  refine pure_ (i := 21) (N := some 32) (v := ?_) (a' := ?_) #[true, true, true, true, true, true, true, true, true, true, true, true, true, true, true, true, true, true, true, true, true, true, false, false, false, false, false] rfl rfl (by kernel_rfl) (fun _ _ _ h => h) (Or.inl ⟨by rfl, ?_⟩) ?_ ?_
  rotate_left
  · intro w'
    go_simp
    with_reducible rfl
  rotate_left
  · simp only [Act.put, nA, nB, nC, i64_w, i32_w]
    rfl
  refine pure_ (i := 22) (N := some 33) (v := ?_) (a' := ?_) #[true, true, true, true, true, true, true, true, true, true, true, true, true, true, true, true, true, true, true, true, true, true, true, false, false, false, false] rfl rfl (by kernel_rfl) (fun _ _ _ h => h) (Or.inl ⟨by rfl, ?_⟩) ?_ ?_
  rotate_left
  · intro w'
    go_simp
    with_reducible rfl
  rotate_left
  · simp only [Act.put, nA, nB, nC, i64_w, i32_w]
    rfl
  refine one_ (i := 23) (N := some 34) #[true, true, true, true, true, true, true, true, true, true, true, true, true, true, true, true, true, true, true, true, true, true, true, true, false, false, false] rfl rfl (by kernel_rfl) (by decide) (fun K hK => ?_)
  refine goes_ Try.func88 (by kernel_rfl) rfl #[.pointer (some ⟨R.pa p, 0, none⟩), .int .i64 rt] (by rfl) rfl rfl (by simp only [List.map_toArray, List.map_cons, List.map_nil]; rfl) ?_
  with_reducible refine (HW.out).mono ?_
  rintro e w3 ⟨rfl, ⟨s3, hM3⟩, hK3⟩
  refine ⟨_, rfl, ?_⟩
  have hB3 := hB1.drew.keeps hK3 nP
  have p7 : w3.cell? ⟨R.pa p, 7, none⟩ = some (.int .i64 (H.procs p).other) := hB3.cell 7
  have f7 := hB3.frozen 7
  try clear hHeld
  refine hK.out _ _ ⟨hK3.cellSome nP s0, hK3.cellSome nP s10, hK3.cellSome nE t5, hK3.cellSome nE t7⟩ (fun hHeld => ?_)
  clear hK K
  refine norm_ (a' := ?_) ?_ ?_
  rotate_left
  · show Act.put _ (some 34) _ = _
    simp only [Act.put, nA, nB, nC, i64_w, i32_w]
    rfl
  refine pure_ (i := 24) (N := some 35) (v := ?_) (a' := ?_) #[true, true, true, true, true, true, true, true, true, true, true, true, true, true, true, true, true, true, true, true, true, true, true, true, true, false, false] rfl rfl (by kernel_rfl) (fun _ _ _ h => h) (Or.inl ⟨by rfl, ?_⟩) ?_ ?_
  rotate_left
  · intro w'
    go_simp
    with_reducible rfl
  rotate_left
  · simp only [Act.put, nA, nB, nC, i64_w, i32_w]
    rfl
  refine pure_ (i := 25) (N := some 36) (v := ?_) (a' := ?_) #[true, true, true, true, true, true, true, true, true, true, true, true, true, true, true, true, true, true, true, true, true, true, true, true, true, true, false] rfl rfl (by kernel_rfl) (fun _ _ _ h => h) (Or.inl ⟨by rfl, ?_⟩) ?_ ?_
  rotate_left
  · intro w'
    go_simp
    with_reducible rfl
  rotate_left
  · simp only [Act.put, nA, nB, nC, i64_w, i32_w]
    rfl
  refine last_ (i := 26) (N := none) #[true, true, true, true, true, true, true, true, true, true, true, true, true, true, true, true, true, true, true, true, true, true, true, true, true, true, true] rfl rfl (by kernel_rfl) (by decide) (fun K hK => ?_)
  refine skip_ (w1 := ?_) (by rfl) rfl ?_ ?_
  rotate_left
  · go_simp
    rfl
  try clear hHeld
  refine hK.out _ _ ?_
  clear hK K
  try clear hHeld
  refine done_ (by kernel_rfl) ?_
  clear s0 s10 t5 t7 p7
  have hB4 := hB3.set 7 (.int .i64 oth)
  have u7 : (w3.setCell ⟨R.pa p, 7, none⟩ (.int .i64 oth)).cell? ⟨R.pa p, 7, none⟩ = some (.int .i64 oth) := hB4.cell 7
  have u2 : (w3.setCell ⟨R.pa p, 7, none⟩ (.int .i64 oth)).cell? ⟨R.pa p, 2, none⟩ = some (.int .i64 (H.procs p).node) := hB4.cell 2
  clear tm te nz nz' nz3 q1
  have kB : Keeps (hturnF R p) w (w3.setCell ⟨R.pa p, 7, none⟩ (.int .i64 oth)) := ((kA.drew).trans' (hK3.mono fun k hk => .inl hk)).set _ 7 (.inl (.inr rfl)) _
  have hM4 := hM3.other nP (a := ⟨R.pa p, 7, none⟩) (.int .i64 oth)
  generalize (w3.setCell ⟨R.pa p, 7, none⟩ (.int .i64 oth)) = wB at *
  go_wp2_with fail
  refine start_ (n := 16) (S := fun w' => w'.cell? ⟨R.pa p, 7, none⟩ = some (.int .i64 oth) ∧ w'.cell? ⟨R.pa p, 2, none⟩ = some (.int .i64 (H.procs p).node)) (ds := []) #[false, false, false, false, false, false, false, false, false, false, false, false, false, false, false, false] (by kernel_rfl) rfl rfl ⟨u7, u2⟩ (fun hHeld => ?_)
  refine pure_ (i := 0) (N := some 37) (v := ?_) (a' := ?_) #[true, false, false, false, false, false, false, false, false, false, false, false, false, false, false, false] rfl rfl (by kernel_rfl) (fun _ _ _ h => h) (Or.inl ⟨by rfl, ?_⟩) ?_ ?_
  rotate_left
  · intro w'
    go_simp
    with_reducible rfl
  rotate_left
  · simp only [Act.put, nA, nB, nC, i64_w, i32_w]
    rfl
  refine pure_ (i := 1) (N := some 38) (v := ?_) (a' := ?_) #[true, true, false, false, false, false, false, false, false, false, false, false, false, false, false, false] rfl rfl (by kernel_rfl) (fun _ _ _ h => h) (Or.inl ⟨by rfl, ?_⟩) ?_ ?_
  rotate_left
  · intro w'
    go_simp
    with_reducible rfl
  rotate_left
  · simp only [Act.put, nA, nB, nC, i64_w, i32_w]
    rfl
  refine pure_ (i := 2) (N := some 39) (v := ?_) (a' := ?_) #[true, true, true, false, false, false, false, false, false, false, false, false, false, false, false, false] rfl rfl (by kernel_rfl) (fun _ _ _ h => h) (Or.inl ⟨by rfl, ?_⟩) ?_ ?_
  rotate_left
  · intro w'
    go_simp
    with_reducible rfl
  rotate_left
  · simp only [Act.put, nA, nB, nC, i64_w, i32_w]
    rfl
  refine take_ (i := 3) (N := some 40) (v := ?_) (a' := ?_) #[true, true, true, true, false, false, false, false, false, false, false, false, false, false, false, false] rfl rfl (by kernel_rfl) (fun _ _ _ h => h) (Or.inl ⟨by rfl, ?_⟩) hHeld ?_ ?_
  rotate_left
  · rintro w' ⟨s0, s1⟩
    go_simp
    with_reducible rfl
  rotate_left
  · simp only [Act.put, nA, nB, nC, i64_w, i32_w]
    rfl
  refine pure_ (i := 4) (N := some 41) (v := ?_) (a' := ?_) #[true, true, true, true, true, false, false, false, false, false, false, false, false, false, false, false] rfl rfl (by kernel_rfl) (fun _ _ _ h => h) (Or.inl ⟨by rfl, ?_⟩) ?_ ?_
  rotate_left
  · intro w'
    go_simp
    with_reducible rfl
  rotate_left
  · simp only [Act.put, nA, nB, nC, i64_w, i32_w]
    rfl
  refine pure_ (i := 5) (N := some 42) (v := ?_) (a' := ?_) #[true, true, true, true, true, true, false, false, false, false, false, false, false, false, false, false] rfl rfl (by kernel_rfl) (fun _ _ _ h => h) (Or.inl ⟨by rfl, ?_⟩) ?_ ?_
  rotate_left
  · intro w'
    go_simp
    with_reducible rfl
  rotate_left
  · simp only [Act.put, nA, nB, nC, i64_w, i32_w]
    rfl
  refine pure_ (i := 6) (N := some 43) (v := ?_) (a' := ?_) #[true, true, true, true, true, true, true, false, false, false, false, false, false, false, false, false] rfl rfl (by kernel_rfl) (fun _ _ _ h => h) (Or.inl ⟨by rfl, ?_⟩) ?_ ?_
  rotate_left
  · intro w'
    go_simp
    with_reducible rfl
  rotate_left
  · simp only [Act.put, nA, nB, nC, i64_w, i32_w]
    rfl
  refine pure_ (i := 7) (N := some 44) (v := ?_) (a' := ?_) #[true, true, true, true, true, true, true, true, false, false, false, false, false, false, false, false] rfl rfl (by kernel_rfl) (fun _ _ _ h => h) (Or.inl ⟨by rfl, ?_⟩) ?_ ?_
  rotate_left
  · intro w'
    go_simp
    with_reducible rfl
  rotate_left
  · simp only [Act.put, nA, nB, nC, i64_w, i32_w]
    rfl
  refine pure_ (i := 8) (N := some 45) (v := ?_) (a' := ?_) #[true, true, true, true, true, true, true, true, true, false, false, false, false, false, false, false] rfl rfl (by kernel_rfl) (fun _ _ _ h => h) (Or.inl ⟨by rfl, ?_⟩) ?_ ?_
  rotate_left
  · intro w'
    go_simp
    with_reducible rfl
  rotate_left
  · simp only [Act.put, nA, nB, nC, i64_w, i32_w]
    rfl
  refine pure_ (i := 10) (N := some 47) (v := ?_) (a' := ?_) #[true, true, true, true, true, true, true, true, true, false, true, false, false, false, false, false] rfl rfl (by kernel_rfl) (fun _ _ _ h => h) (Or.inl ⟨by rfl, ?_⟩) ?_ ?_
  rotate_left
  · intro w'
    go_simp
    with_reducible rfl
  rotate_left
  · simp only [Act.put, nA, nB, nC, i64_w, i32_w]
    rfl
  refine pure_ (i := 11) (N := some 48) (v := ?_) (a' := ?_) #[true, true, true, true, true, true, true, true, true, false, true, true, false, false, false, false] rfl rfl (by kernel_rfl) (fun _ _ _ h => h) (Or.inl ⟨by rfl, ?_⟩) ?_ ?_
  rotate_left
  · intro w'
    go_simp
    with_reducible rfl
  rotate_left
  · simp only [Act.put, nA, nB, nC, i64_w, i32_w]
    rfl
  refine pure_ (i := 12) (N := some 49) (v := ?_) (a' := ?_) #[true, true, true, true, true, true, true, true, true, false, true, true, true, false, false, false] rfl rfl (by kernel_rfl) (fun _ _ _ h => h) (Or.inl ⟨by rfl, ?_⟩) ?_ ?_
  rotate_left
  · intro w'
    go_simp
    with_reducible rfl
  rotate_left
  · simp only [Act.put, nA, nB, nC, i64_w, i32_w]
    rfl
  refine take_ (i := 9) (N := some 46) (v := ?_) (a' := ?_) #[true, true, true, true, true, true, true, true, true, true, true, true, true, false, false, false] rfl rfl (by kernel_rfl) (fun _ _ _ h => h) (Or.inl ⟨by rfl, ?_⟩) hHeld ?_ ?_
  rotate_left
  · rintro w' ⟨s0, s1⟩
    go_simp
    with_reducible rfl
  rotate_left
  · simp only [Act.put, nA, nB, nC, i64_w, i32_w]
    rfl
  refine take_ (i := 13) (N := some 50) (v := ?_) (a' := ?_) #[true, true, true, true, true, true, true, true, true, true, true, true, true, true, false, false] rfl rfl (by kernel_rfl) (fun _ _ _ h => h) (Or.inl ⟨by rfl, ?_⟩) hHeld ?_ ?_
  rotate_left
  · rintro w' ⟨s0, s1⟩
    go_simp
    with_reducible rfl
  rotate_left
  · simp only [Act.put, nA, nB, nC, i64_w, i32_w]
    rfl
  refine pure_ (i := 14) (N := some 51) (v := ?_) (a' := ?_) #[true, true, true, true, true, true, true, true, true, true, true, true, true, true, true, false] rfl rfl (by kernel_rfl) (fun _ _ _ h => h) (Or.inl ⟨by rfl, ?_⟩) ?_ ?_
  rotate_left
  · intro w'
    go_simp
    with_reducible rfl
  rotate_left
  · simp only [Act.put, nA, nB, nC, i64_w, i32_w]
    rfl
  refine pure_ (i := 15) (N := some 52) (v := ?_) (a' := ?_) #[true, true, true, true, true, true, true, true, true, true, true, true, true, true, true, true] rfl rfl (by kernel_rfl) (fun _ _ _ h => h) (Or.inl ⟨by rfl, ?_⟩) ?_ ?_
  rotate_left
  · intro w'
    go_simp
    with_reducible rfl
  rotate_left
  · simp only [Act.put, nA, nB, nC, i64_w, i32_w]
    rfl
  try clear hHeld
  refine done_ (by kernel_rfl) ?_
  clear u7 u2
  have hB5 := hB4.drew
  have c5 := hB5.cell 5
  have f5 := hB5.frozen 5
  have HC := Lib.hid c5
  clear c5
  go_wp2_with (go_at_call 78; refine (he_goes _ _ _ _ _ _ HC.out f5).mono ?_; rintro e w5 ⟨rfl, rfl⟩)
  go_ret2
  refine h.fin hp (steps := s3) ((kB.drew).set _ 5 (.inl (.inr rfl)) _) rfl (same_nodes H) (R.bef p) ?_ ?_ _
  · exact hM4.drew.other nP _
  · exact hB5.set 5 _
end Go.Proofs.Ytjfenjnnpikkdaa
