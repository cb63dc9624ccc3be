/-
  Package herlihy: ask, check, follow.
-/
import Derived.Test.YtjfenjnnpikkdaaKha
set_option linter.unusedVariables false
set_option linter.unusedSimpArgs false
namespace Go.Proofs.Ytjfenjnnpikkdaa
set_option maxRecDepth 100000
open Go.RowKit
open Go.Proofs.YtjfenjnnpikkdaaW.PrintLast

theorem HRep.viewNode {w : World} {base be n : Nat} {R : HRef} {s : St} {H : HS} (h : HRep w base be R n s H) {i : Nat} (hi : i < H.nodes.length) : ∃ (gv cv : Nat), w.cell? ⟨be, 8, none⟩ = some (.slice (some ⟨gv, 0, none⟩) H.nodes.length cv) ∧ w.cell? ⟨gv, i, none⟩ = some (.pointer (some ⟨R.na i, 0, none⟩)) ∧
    (∀ j c, j < 3 → c = ncell n i + j → w.cell? ⟨R.na i, 2 + j, none⟩ = some (.int .i64 (c : Nat))) ∧ ¬ machF R.bm R.vc R.vs gv ∧ ¬ machF R.bm R.vc R.vs (R.na i) := by
  obtain ⟨gv, cv, e, _⟩ := own_open h.nodes (by omega)
  have hn := h.nodes
  have ht := h.nodesT
  have he := h.eng.cell 8
  rw [e] at hn ht
  obtain ⟨t0, vl, hb, _⟩ := h.node i hi
  refine ⟨gv, cv, by rw [he]; simp [hengV, e], ?_, fun j c hj hc => ?_, h.nTag (ht _ rfl) (by simp), h.nTag t0 (by simp)⟩
  · rw [World.ownsRow.cellAt hn i (by omega)]; simp [hi]
  · subst hc
    rcases j with _ | _ | _ | j
    · exact hb.cell 2
    · exact hb.cell 3
    · exact hb.cell 4
    · omega
set_option maxRecDepth 100000 in
set_option maxHeartbeats 1600000 in
theorem he_ask_no {w : World} {base be n p : Nat} {R : HRef} {s : St} {H : HS} (h : HRep w base be R n s H) (hp : p < n) (hph : (H.procs p).ph = .ask) (hn : (H.procs p).node < H.nodes.length) (hc : (H.nd (H.procs p).node).place = 0) :
    Calls Try.prog 98 #[.pointer (some ⟨R.pa p, 0, none⟩)] w (HPost w base be R n s (H.step n p).1 (.tuple #[.int .i64 0, .bool false])) := by
  have e0 : (H.step n p).1 = ⟨H.nodes, H.chain, H.ann, H.head, upd H.procs p { H.procs p with ph := .offer }⟩ := by unfold HS.step; rw [hph]; simp [HS.stp, HS.put, hc]
  rw [e0]
  have hx := h.proc p hp
  have p0 : w.cell? ⟨R.pa p, 0, none⟩ = some (.pointer (some ⟨be, 0, none⟩)) := hx.blk.cell 0
  have p1 : w.cell? ⟨R.pa p, 1, none⟩ = some (.int .i64 p) := hx.blk.cell 1
  have e4 : w.cell? ⟨be, 4, none⟩ = some (.pointer (some ⟨R.bm, 0, none⟩)) := h.eng.cell 4
  have e5 : w.cell? ⟨be, 5, none⟩ = some (.int .i64 0) := h.eng.cell 5
  have e6 : w.cell? ⟨be, 6, none⟩ = some (.int .i64 n) := h.eng.cell 6
  have nP := h.nP hp
  have nE := h.nE
  have hsm := h.small
  have hm := hmf
  have p2 : w.cell? ⟨R.pa p, 2, none⟩ = some (.int .i64 (H.procs p).node) := hx.blk.cell 2
  obtain ⟨gv, cv, e8, gi, gn, nG, nN⟩ := h.viewNode hn
  obtain ⟨cl, hcl⟩ : ∃ cl : Nat, cl = ncell n ((H.procs p).node) + 0 := ⟨_, rfl⟩
  have n2 := gn 0 cl (by decide) hcl
  have hcb : cl < 2 * n + 3 * H.nodes.length := by rw [hcl]; exact ncell_lt hn (by decide)
  have x1 : (0 : Int) ≤ (((H.procs p).node : Nat) : Int) := by omega
  have x2 : (((H.procs p).node : Nat) : Int) < (H.nodes.length : Int) := by have := hn; omega
  clear gn
  have HW := Lib.hid (he_read (w := w.drew) (H := H) p0 p1 e4 h.mach.drew (c := cl) hcb nP nE)
  rw [hcl, Nat.add_zero, cval_place] at HW
  rw [Nat.add_zero] at hcl
  rw [← hcl] at HW
  rw [hc] at HW
  clear hcl
  go_enter Try.func98, Try.ntmps98
  go_wp2_with fail
  refine start_ (n := 19) (S := fun w' => w'.cell? ⟨R.pa p, 0, none⟩ = some (.pointer (some ⟨be, 0, none⟩)) ∧ w'.cell? ⟨R.pa p, 2, none⟩ = some (.int .i64 (H.procs p).node) ∧ w'.cell? ⟨be, 8, none⟩ = some (.slice (some ⟨gv, 0, none⟩) H.nodes.length cv) ∧ w'.cell? ⟨gv, (H.procs p).node, none⟩ = some (.pointer (some ⟨R.na ((H.procs p).node), 0, none⟩)) ∧ w'.cell? ⟨R.na ((H.procs p).node), 2, none⟩ = some (.int .i64 cl)) (ds := []) #[false, false, false, false, false, false, false, false, false, false, false, false, false, false, false, false, false, false, false] (by kernel_rfl) rfl rfl ⟨p0, p2, e8, gi, n2⟩ (fun hHeld => ?_)
  refine pure_ (i := 0) (N := some 4) (v := ?_) (a' := ?_) #[true, false, false, false, false, false, false, false, false, false, false, false, false, false, false, false, false, false, false] rfl rfl (by kernel_rfl) (fun _ _ _ h => h) (Or.inl ⟨by rfl, ?_⟩) ?_ ?_
  rotate_left
  · intro w'
    go_simp
    with_reducible rfl
  rotate_left
  · simp only [Act.put, nA, nB, nC, i64_w, i32_w]
    rfl
  refine pure_ (i := 1) (N := some 5) (v := ?_) (a' := ?_) #[true, true, false, false, false, false, false, false, false, false, false, false, false, false, false, false, false, false, false] rfl rfl (by kernel_rfl) (fun _ _ _ h => h) (Or.inl ⟨by rfl, ?_⟩) ?_ ?_
  rotate_left
  · intro w'
    go_simp
    with_reducible rfl
  rotate_left
  · simp only [Act.put, nA, nB, nC, i64_w, i32_w]
    rfl
  refine pure_ (i := 2) (N := some 6) (v := ?_) (a' := ?_) #[true, true, true, false, false, false, false, false, false, false, false, false, false, false, false, false, false, false, false] rfl rfl (by kernel_rfl) (fun _ _ _ h => h) (Or.inl ⟨by rfl, ?_⟩) ?_ ?_
  rotate_left
  · intro w'
    go_simp
    with_reducible rfl
  rotate_left
  · simp only [Act.put, nA, nB, nC, i64_w, i32_w]
    rfl
  refine pure_ (i := 3) (N := some 7) (v := ?_) (a' := ?_) #[true, true, true, true, false, false, false, false, false, false, false, false, false, false, false, false, false, false, false] rfl rfl (by kernel_rfl) (fun _ _ _ h => h) (Or.inl ⟨by rfl, ?_⟩) ?_ ?_
  rotate_left
  · intro w'
    go_simp
    with_reducible rfl
  rotate_left
  · simp only [Act.put, nA, nB, nC, i64_w, i32_w]
    rfl
  refine pure_ (i := 8) (N := some 12) (v := ?_) (a' := ?_) #[true, true, true, true, false, false, false, false, true, false, false, false, false, false, false, false, false, false, false] rfl rfl (by kernel_rfl) (fun _ _ _ h => h) (Or.inl ⟨by rfl, ?_⟩) ?_ ?_
  rotate_left
  · intro w'
    go_simp
    with_reducible rfl
  rotate_left
  · simp only [Act.put, nA, nB, nC, i64_w, i32_w]
    rfl
  refine pure_ (i := 9) (N := some 13) (v := ?_) (a' := ?_) #[true, true, true, true, false, false, false, false, true, true, false, false, false, false, false, false, false, false, false] rfl rfl (by kernel_rfl) (fun _ _ _ h => h) (Or.inl ⟨by rfl, ?_⟩) ?_ ?_
  rotate_left
  · intro w'
    go_simp
    with_reducible rfl
  rotate_left
  · simp only [Act.put, nA, nB, nC, i64_w, i32_w]
    rfl
  refine pure_ (i := 10) (N := some 14) (v := ?_) (a' := ?_) #[true, true, true, true, false, false, false, false, true, true, true, false, false, false, false, false, false, false, false] rfl rfl (by kernel_rfl) (fun _ _ _ h => h) (Or.inl ⟨by rfl, ?_⟩) ?_ ?_
  rotate_left
  · intro w'
    go_simp
    with_reducible rfl
  rotate_left
  · simp only [Act.put, nA, nB, nC, i64_w, i32_w]
    rfl
  refine take_ (i := 4) (N := some 8) (v := ?_) (a' := ?_) #[true, true, true, true, true, false, false, false, true, true, true, false, false, false, false, false, false, false, false] rfl rfl (by kernel_rfl) (fun _ _ _ h => h) (Or.inl ⟨by rfl, ?_⟩) hHeld ?_ ?_
  rotate_left
  · rintro w' ⟨s0, s1, s2, s3, s4⟩
    go_simp
    with_reducible rfl
  rotate_left
  · simp only [Act.put, nA, nB, nC, i64_w, i32_w]
    rfl
  refine pure_ (i := 5) (N := some 9) (v := ?_) (a' := ?_) #[true, true, true, true, true, true, false, false, true, true, true, false, false, false, false, false, false, false, false] rfl rfl (by kernel_rfl) (fun _ _ _ h => h) (Or.inl ⟨by rfl, ?_⟩) ?_ ?_
  rotate_left
  · intro w'
    go_simp
    with_reducible rfl
  rotate_left
  · simp only [Act.put, nA, nB, nC, i64_w, i32_w]
    rfl
  refine pure_ (i := 6) (N := some 10) (v := ?_) (a' := ?_) #[true, true, true, true, true, true, true, false, true, true, true, false, false, false, false, false, false, false, false] rfl rfl (by kernel_rfl) (fun _ _ _ h => h) (Or.inl ⟨by rfl, ?_⟩) ?_ ?_
  rotate_left
  · intro w'
    go_simp
    with_reducible rfl
  rotate_left
  · simp only [Act.put, nA, nB, nC, i64_w, i32_w]
    rfl
  refine take_ (i := 7) (N := some 11) (v := ?_) (a' := ?_) #[true, true, true, true, true, true, true, true, true, true, true, false, false, false, false, false, false, false, false] rfl rfl (by kernel_rfl) (fun _ _ _ h => h) (Or.inl ⟨by rfl, ?_⟩) hHeld ?_ ?_
  rotate_left
  · rintro w' ⟨s0, s1, s2, s3, s4⟩
    go_simp
    with_reducible rfl
  rotate_left
  · simp only [Act.put, nA, nB, nC, i64_w, i32_w]
    rfl
  refine take_ (i := 11) (N := some 15) (v := ?_) (a' := ?_) #[true, true, true, true, true, true, true, true, true, true, true, true, false, false, false, false, false, false, false] rfl rfl (by kernel_rfl) (fun _ _ _ h => h) (Or.inl ⟨by rfl, ?_⟩) hHeld ?_ ?_
  rotate_left
  · rintro w' ⟨s0, s1, s2, s3, s4⟩
    go_simp
    with_reducible rfl
  rotate_left
  · simp only [Act.put, nA, nB, nC, i64_w, i32_w]
    rfl
  refine pure_ (i := 12) (N := some 16) (v := ?_) (a' := ?_) #[true, true, true, true, true, true, true, true, true, true, true, true, true, false, false, false, false, false, false] rfl rfl (by kernel_rfl) (fun _ _ _ h => h) (Or.inl ⟨by rfl, ?_⟩) ?_ ?_
  rotate_left
  · intro w'
    go_simp
    with_reducible rfl
  rotate_left
  · simp only [Act.put, nA, nB, nC, i64_w, i32_w]
    rfl
  refine take_ (i := 13) (N := some 17) (v := ?_) (a' := ?_) #[true, true, true, true, true, true, true, true, true, true, true, true, true, true, false, false, false, false, false] rfl rfl (by kernel_rfl) (fun _ _ _ h => h) (Or.inl ⟨by rfl, ?_⟩) hHeld ?_ ?_
  rotate_left
  · rintro w' ⟨s0, s1, s2, s3, s4⟩
    go_simp
    with_reducible rfl
  rotate_left
  · simp only [Act.put, nA, nB, nC, i64_w, i32_w]
    rfl
  refine pure_ (i := 14) (N := some 18) (v := ?_) (a' := ?_) #[true, true, true, true, true, true, true, true, true, true, true, true, true, true, true, false, false, false, false] rfl rfl (by kernel_rfl) (fun _ _ _ h => h) (Or.inl ⟨by rfl, ?_⟩) ?_ ?_
  rotate_left
  · intro w'
    go_simp
    with_reducible rfl
  rotate_left
  · simp only [Act.put, nA, nB, nC, i64_w, i32_w]
    rfl
  refine pure_ (i := 15) (N := some 19) (v := ?_) (a' := ?_) #[true, true, true, true, true, true, true, true, true, true, true, true, true, true, true, true, false, false, false] rfl rfl (by kernel_rfl) (fun _ _ _ h => h) (Or.inl ⟨by rfl, ?_⟩) ?_ ?_
  rotate_left
  · intro w'
    go_simp
    with_reducible rfl
  rotate_left
  · simp only [Act.put, nA, nB, nC, i64_w, i32_w]
    rfl
  refine take_ (i := 16) (N := some 20) (v := ?_) (a' := ?_) #[true, true, true, true, true, true, true, true, true, true, true, true, true, true, true, true, true, false, false] rfl rfl (by kernel_rfl) (fun _ _ _ h => h) (Or.inl ⟨by rfl, ?_⟩) hHeld ?_ ?_
  rotate_left
  · rintro w' ⟨s0, s1, s2, s3, s4⟩
    go_simp
    with_reducible rfl
  rotate_left
  · simp only [Act.put, nA, nB, nC, i64_w, i32_w]
    rfl
  refine one_ (i := 17) (N := some 21) #[true, true, true, true, true, true, true, true, true, true, true, true, true, true, true, true, true, true, false] rfl rfl (by kernel_rfl) (by decide) (fun K hK => ?_)
  refine goes_ Try.func88 (by kernel_rfl) rfl #[.pointer (some ⟨R.pa p, 0, none⟩), .int .i64 cl] (by rfl) rfl rfl (by simp only [List.map_toArray, List.map_cons, List.map_nil]; rfl) ?_
  with_reducible refine (HW.out).mono ?_
  rintro e w3 ⟨rfl, ⟨s3, hM3⟩, hK3⟩
  refine ⟨_, rfl, ?_⟩
  try clear hHeld
  refine hK.out _ _ ⟨hK3.cellSome nP p0, hK3.cellSome nP p2, hK3.cellSome nE e8, hK3.cellSome nG gi, hK3.cellSome nN n2⟩ (fun hHeld => ?_)
  clear hK K
  refine norm_ (a' := ?_) ?_ ?_
  rotate_left
  · show Act.put _ (some 21) _ = _
    simp only [Act.put, nA, nB, nC, i64_w, i32_w]
    rfl
  refine pure_ (i := 18) (N := some 22) (v := ?_) (a' := ?_) #[true, true, true, true, true, true, true, true, true, true, true, true, true, true, true, true, true, true, true] rfl rfl (by kernel_rfl) (fun _ _ _ h => h) (Or.inl ⟨by rfl, ?_⟩) ?_ ?_
  rotate_left
  · intro w'
    go_simp
    with_reducible rfl
  rotate_left
  · simp only [Act.put, nA, nB, nC, i64_w, i32_w]
    rfl
  try clear hHeld
  refine done_ (by kernel_rfl) ?_
  clear p0 p1 p2 e4 e5 e6 e8 gi n2
  have hB3 := hx.blk.drew.keeps hK3 nP
  have c5 := hB3.cell 5
  have f5 := hB3.frozen 5
  have HC := Lib.hid c5
  clear c5
  go_wp2_with (go_at_call 78; refine (he_goes _ _ _ _ _ _ HC.out f5).mono ?_; rintro e w5 ⟨rfl, rfl⟩)
  go_ret2
  refine h.fin hp (steps := s3) (((Keeps.refl _ _).drew.trans' (hK3.mono fun k hk => .inl hk)).set _ 5 (.inl (.inr rfl)) _) rfl (same_nodes H) (R.bef p) ?_ ?_ _
  · exact (hM3.other nP _)
  · exact hB3.set 5 _

set_option maxRecDepth 100000 in
set_option maxHeartbeats 1600000 in
theorem he_ask_yes {w : World} {base be n p : Nat} {R : HRef} {s : St} {H : HS} (h : HRep w base be R n s H) (hp : p < n) (hph : (H.procs p).ph = .ask) (hn : (H.procs p).node < H.nodes.length) (hc : (H.nd (H.procs p).node).place ≠ 0) :
    Calls Try.prog 98 #[.pointer (some ⟨R.pa p, 0, none⟩)] w (HPost w base be R n s (H.step n p).1 (.tuple #[.int .i64 0, .bool false])) := by
  have e0 : (H.step n p).1 = ⟨H.nodes, H.chain, H.ann, H.head, upd H.procs p { H.procs p with ph := .finish }⟩ := by unfold HS.step; rw [hph]; simp [HS.stp, HS.put, hc]
  rw [e0]
  have hx := h.proc p hp
  have p0 : w.cell? ⟨R.pa p, 0, none⟩ = some (.pointer (some ⟨be, 0, none⟩)) := hx.blk.cell 0
  have p1 : w.cell? ⟨R.pa p, 1, none⟩ = some (.int .i64 p) := hx.blk.cell 1
  have e4 : w.cell? ⟨be, 4, none⟩ = some (.pointer (some ⟨R.bm, 0, none⟩)) := h.eng.cell 4
  have e5 : w.cell? ⟨be, 5, none⟩ = some (.int .i64 0) := h.eng.cell 5
  have e6 : w.cell? ⟨be, 6, none⟩ = some (.int .i64 n) := h.eng.cell 6
  have nP := h.nP hp
  have nE := h.nE
  have hsm := h.small
  have hm := hmf
  have p2 : w.cell? ⟨R.pa p, 2, none⟩ = some (.int .i64 (H.procs p).node) := hx.blk.cell 2
  obtain ⟨gv, cv, e8, gi, gn, nG, nN⟩ := h.viewNode hn
  obtain ⟨cl, hcl⟩ : ∃ cl : Nat, cl = ncell n ((H.procs p).node) + 0 := ⟨_, rfl⟩
  have n2 := gn 0 cl (by decide) hcl
  have hcb : cl < 2 * n + 3 * H.nodes.length := by rw [hcl]; exact ncell_lt hn (by decide)
  have x1 : (0 : Int) ≤ (((H.procs p).node : Nat) : Int) := by omega
  have x2 : (((H.procs p).node : Nat) : Int) < (H.nodes.length : Int) := by have := hn; omega
  clear gn
  have HW := Lib.hid (he_read (w := w.drew) (H := H) p0 p1 e4 h.mach.drew (c := cl) hcb nP nE)
  rw [hcl, Nat.add_zero, cval_place] at HW
  rw [Nat.add_zero] at hcl
  rw [← hcl] at HW
  have hb : (((H.nd (H.procs p).node).place : Int) != 0) = true := by simp; exact hc
  clear hcl
  go_enter Try.func98, Try.ntmps98
  go_wp2_with fail
  refine start_ (n := 19) (S := fun w' => w'.cell? ⟨R.pa p, 0, none⟩ = some (.pointer (some ⟨be, 0, none⟩)) ∧ w'.cell? ⟨R.pa p, 2, none⟩ = some (.int .i64 (H.procs p).node) ∧ w'.cell? ⟨be, 8, none⟩ = some (.slice (some ⟨gv, 0, none⟩) H.nodes.length cv) ∧ w'.cell? ⟨gv, (H.procs p).node, none⟩ = some (.pointer (some ⟨R.na ((H.procs p).node), 0, none⟩)) ∧ w'.cell? ⟨R.na ((H.procs p).node), 2, none⟩ = some (.int .i64 cl)) (ds := []) #[false, false, false, false, false, false, false, false, false, false, false, false, false, false, false, false, false, false, false] (by kernel_rfl) rfl rfl ⟨p0, p2, e8, gi, n2⟩ (fun hHeld => ?_)
  refine pure_ (i := 0) (N := some 4) (v := ?_) (a' := ?_) #[true, false, false, false, false, false, false, false, false, false, false, false, false, false, false, false, false, false, false] rfl rfl (by kernel_rfl) (fun _ _ _ h => h) (Or.inl ⟨by rfl, ?_⟩) ?_ ?_
  rotate_left
  · intro w'
    go_simp
    with_reducible rfl
  rotate_left
  · simp only [Act.put, nA, nB, nC, i64_w, i32_w]
    rfl
  refine pure_ (i := 1) (N := some 5) (v := ?_) (a' := ?_) #[true, true, false, false, false, false, false, false, false, false, false, false, false, false, false, false, false, false, false] rfl rfl (by kernel_rfl) (fun _ _ _ h => h) (Or.inl ⟨by rfl, ?_⟩) ?_ ?_
  rotate_left
  · intro w'
    go_simp
    with_reducible rfl
  rotate_left
  · simp only [Act.put, nA, nB, nC, i64_w, i32_w]
    rfl
  refine pure_ (i := 2) (N := some 6) (v := ?_) (a' := ?_) #[true, true, true, false, false, false, false, false, false, false, false, false, false, false, false, false, false, false, false] rfl rfl (by kernel_rfl) (fun _ _ _ h => h) (Or.inl ⟨by rfl, ?_⟩) ?_ ?_
  rotate_left
  · intro w'
    go_simp
    with_reducible rfl
  rotate_left
  · simp only [Act.put, nA, nB, nC, i64_w, i32_w]
    rfl
  refine pure_ (i := 3) (N := some 7) (v := ?_) (a' := ?_) #[true, true, true, true, false, false, false, false, false, false, false, false, false, false, false, false, false, false, false] rfl rfl (by kernel_rfl) (fun _ _ _ h => h) (Or.inl ⟨by rfl, ?_⟩) ?_ ?_
  rotate_left
  · intro w'
    go_simp
    with_reducible rfl
  rotate_left
  · simp only [Act.put, nA, nB, nC, i64_w, i32_w]
    rfl
  refine pure_ (i := 8) (N := some 12) (v := ?_) (a' := ?_) #[true, true, true, true, false, false, false, false, true, false, false, false, false, false, false, false, false, false, false] rfl rfl (by kernel_rfl) (fun _ _ _ h => h) (Or.inl ⟨by rfl, ?_⟩) ?_ ?_
  rotate_left
  · intro w'
    go_simp
    with_reducible rfl
  rotate_left
  · simp only [Act.put, nA, nB, nC, i64_w, i32_w]
    rfl
  refine pure_ (i := 9) (N := some 13) (v := ?_) (a' := ?_) #[true, true, true, true, false, false, false, false, true, true, false, false, false, false, false, false, false, false, false] rfl rfl (by kernel_rfl) (fun _ _ _ h => h) (Or.inl ⟨by rfl, ?_⟩) ?_ ?_
  rotate_left
  · intro w'
    go_simp
    with_reducible rfl
  rotate_left
  · simp only [Act.put, nA, nB, nC, i64_w, i32_w]
    rfl
  refine pure_ (i := 10) (N := some 14) (v := ?_) (a' := ?_) #[true, true, true, true, false, false, false, false, true, true, true, false, false, false, false, false, false, false, false] rfl rfl (by kernel_rfl) (fun _ _ _ h => h) (Or.inl ⟨by rfl, ?_⟩) ?_ ?_
  rotate_left
  · intro w'
    go_simp
    with_reducible rfl
  rotate_left
  · simp only [Act.put, nA, nB, nC, i64_w, i32_w]
    rfl
  refine take_ (i := 4) (N := some 8) (v := ?_) (a' := ?_) #[true, true, true, true, true, false, false, false, true, true, true, false, false, false, false, false, false, false, false] rfl rfl (by kernel_rfl) (fun _ _ _ h => h) (Or.inl ⟨by rfl, ?_⟩) hHeld ?_ ?_
  rotate_left
  · rintro w' ⟨s0, s1, s2, s3, s4⟩
    go_simp
    with_reducible rfl
  rotate_left
  · simp only [Act.put, nA, nB, nC, i64_w, i32_w]
    rfl
  refine pure_ (i := 5) (N := some 9) (v := ?_) (a' := ?_) #[true, true, true, true, true, true, false, false, true, true, true, false, false, false, false, false, false, false, false] rfl rfl (by kernel_rfl) (fun _ _ _ h => h) (Or.inl ⟨by rfl, ?_⟩) ?_ ?_
  rotate_left
  · intro w'
    go_simp
    with_reducible rfl
  rotate_left
  · simp only [Act.put, nA, nB, nC, i64_w, i32_w]
    rfl
  refine pure_ (i := 6) (N := some 10) (v := ?_) (a' := ?_) #[true, true, true, true, true, true, true, false, true, true, true, false, false, false, false, false, false, false, false] rfl rfl (by kernel_rfl) (fun _ _ _ h => h) (Or.inl ⟨by rfl, ?_⟩) ?_ ?_
  rotate_left
  · intro w'
    go_simp
    with_reducible rfl
  rotate_left
  · simp only [Act.put, nA, nB, nC, i64_w, i32_w]
    rfl
  refine take_ (i := 7) (N := some 11) (v := ?_) (a' := ?_) #[true, true, true, true, true, true, true, true, true, true, true, false, false, false, false, false, false, false, false] rfl rfl (by kernel_rfl) (fun _ _ _ h => h) (Or.inl ⟨by rfl, ?_⟩) hHeld ?_ ?_
  rotate_left
  · rintro w' ⟨s0, s1, s2, s3, s4⟩
    go_simp
    with_reducible rfl
  rotate_left
  · simp only [Act.put, nA, nB, nC, i64_w, i32_w]
    rfl
  refine take_ (i := 11) (N := some 15) (v := ?_) (a' := ?_) #[true, true, true, true, true, true, true, true, true, true, true, true, false, false, false, false, false, false, false] rfl rfl (by kernel_rfl) (fun _ _ _ h => h) (Or.inl ⟨by rfl, ?_⟩) hHeld ?_ ?_
  rotate_left
  · rintro w' ⟨s0, s1, s2, s3, s4⟩
    go_simp
    with_reducible rfl
  rotate_left
  · simp only [Act.put, nA, nB, nC, i64_w, i32_w]
    rfl
  refine pure_ (i := 12) (N := some 16) (v := ?_) (a' := ?_) #[true, true, true, true, true, true, true, true, true, true, true, true, true, false, false, false, false, false, false] rfl rfl (by kernel_rfl) (fun _ _ _ h => h) (Or.inl ⟨by rfl, ?_⟩) ?_ ?_
  rotate_left
  · intro w'
    go_simp
    with_reducible rfl
  rotate_left
  · simp only [Act.put, nA, nB, nC, i64_w, i32_w]
    rfl
  refine take_ (i := 13) (N := some 17) (v := ?_) (a' := ?_) #[true, true, true, true, true, true, true, true, true, true, true, true, true, true, false, false, false, false, false] rfl rfl (by kernel_rfl) (fun _ _ _ h => h) (Or.inl ⟨by rfl, ?_⟩) hHeld ?_ ?_
  rotate_left
  · rintro w' ⟨s0, s1, s2, s3, s4⟩
    go_simp
    with_reducible rfl
  rotate_left
  · simp only [Act.put, nA, nB, nC, i64_w, i32_w]
    rfl
  refine pure_ (i := 14) (N := some 18) (v := ?_) (a' := ?_) #[true, true, true, true, true, true, true, true, true, true, true, true, true, true, true, false, false, false, false] rfl rfl (by kernel_rfl) (fun _ _ _ h => h) (Or.inl ⟨by rfl, ?_⟩) ?_ ?_
  rotate_left
  · intro w'
    go_simp
    with_reducible rfl
  rotate_left
  · simp only [Act.put, nA, nB, nC, i64_w, i32_w]
    rfl
  refine pure_ (i := 15) (N := some 19) (v := ?_) (a' := ?_) #[true, true, true, true, true, true, true, true, true, true, true, true, true, true, true, true, false, false, false] rfl rfl (by kernel_rfl) (fun _ _ _ h => h) (Or.inl ⟨by rfl, ?_⟩) ?_ ?_
  rotate_left
  · intro w'
    go_simp
    with_reducible rfl
  rotate_left
  · simp only [Act.put, nA, nB, nC, i64_w, i32_w]
    rfl
  refine take_ (i := 16) (N := some 20) (v := ?_) (a' := ?_) #[true, true, true, true, true, true, true, true, true, true, true, true, true, true, true, true, true, false, false] rfl rfl (by kernel_rfl) (fun _ _ _ h => h) (Or.inl ⟨by rfl, ?_⟩) hHeld ?_ ?_
  rotate_left
  · rintro w' ⟨s0, s1, s2, s3, s4⟩
    go_simp
    with_reducible rfl
  rotate_left
  · simp only [Act.put, nA, nB, nC, i64_w, i32_w]
    rfl
  refine one_ (i := 17) (N := some 21) #[true, true, true, true, true, true, true, true, true, true, true, true, true, true, true, true, true, true, false] rfl rfl (by kernel_rfl) (by decide) (fun K hK => ?_)
  refine goes_ Try.func88 (by kernel_rfl) rfl #[.pointer (some ⟨R.pa p, 0, none⟩), .int .i64 cl] (by rfl) rfl rfl (by simp only [List.map_toArray, List.map_cons, List.map_nil]; rfl) ?_
  with_reducible refine (HW.out).mono ?_
  rintro e w3 ⟨rfl, ⟨s3, hM3⟩, hK3⟩
  refine ⟨_, rfl, ?_⟩
  try clear hHeld
  refine hK.out _ _ ⟨hK3.cellSome nP p0, hK3.cellSome nP p2, hK3.cellSome nE e8, hK3.cellSome nG gi, hK3.cellSome nN n2⟩ (fun hHeld => ?_)
  clear hK K
  refine norm_ (a' := ?_) ?_ ?_
  rotate_left
  · show Act.put _ (some 21) _ = _
    simp only [Act.put, nA, nB, nC, i64_w, i32_w]
    rfl
  refine pure_ (i := 18) (N := some 22) (v := ?_) (a' := ?_) #[true, true, true, true, true, true, true, true, true, true, true, true, true, true, true, true, true, true, true] rfl rfl (by kernel_rfl) (fun _ _ _ h => h) (Or.inl ⟨by rfl, ?_⟩) ?_ ?_
  rotate_left
  · intro w'
    go_simp
    with_reducible rfl
  rotate_left
  · simp only [Act.put, nA, nB, nC, i64_w, i32_w]
    rfl
  try clear hHeld
  refine done_ (by kernel_rfl) ?_
  clear p0 p1 p2 e4 e5 e6 e8 gi n2
  have hB3 := hx.blk.drew.keeps hK3 nP
  have c5 := hB3.cell 5
  have f5 := hB3.frozen 5
  have HC := Lib.hid c5
  clear c5
  go_wp2_with (go_at_call 78; refine (he_goes _ _ _ _ _ _ HC.out f5).mono ?_; rintro e w5 ⟨rfl, rfl⟩)
  go_ret2
  refine h.fin hp (steps := s3) (((Keeps.refl _ _).drew.trans' (hK3.mono fun k hk => .inl hk)).set _ 5 (.inl (.inr rfl)) _) rfl (same_nodes H) (R.bef p) ?_ ?_ _
  · exact (hM3.other nP _)
  · exact hB3.set 5 _

set_option maxRecDepth 100000 in
set_option maxHeartbeats 1600000 in
theorem he_follow {w : World} {base be n p : Nat} {R : HRef} {s : St} {H : HS} (h : HRep w base be R n s H) (hp : p < n) (hph : (H.procs p).ph = .follow) (ha : (H.procs p).at_ < H.nodes.length) :
    Calls Try.prog 106 #[.pointer (some ⟨R.pa p, 0, none⟩)] w (HPost w base be R n s (H.step n p).1 (.tuple #[.int .i64 0, .bool false])) := by
  have e0 : (H.step n p).1 = ⟨H.nodes, H.chain, H.ann, H.head, upd H.procs p { H.procs p with after := nextOf H.chain (H.procs p).at_, ph := .reckon }⟩ := by unfold HS.step; rw [hph]; rfl
  rw [e0]
  have hx := h.proc p hp
  have p0 : w.cell? ⟨R.pa p, 0, none⟩ = some (.pointer (some ⟨be, 0, none⟩)) := hx.blk.cell 0
  have p1 : w.cell? ⟨R.pa p, 1, none⟩ = some (.int .i64 p) := hx.blk.cell 1
  have e4 : w.cell? ⟨be, 4, none⟩ = some (.pointer (some ⟨R.bm, 0, none⟩)) := h.eng.cell 4
  have e5 : w.cell? ⟨be, 5, none⟩ = some (.int .i64 0) := h.eng.cell 5
  have e6 : w.cell? ⟨be, 6, none⟩ = some (.int .i64 n) := h.eng.cell 6
  have nP := h.nP hp
  have nE := h.nE
  have hsm := h.small
  have hm := hmf
  have p9 : w.cell? ⟨R.pa p, 9, none⟩ = some (.int .i64 (H.procs p).at_) := hx.blk.cell 9
  obtain ⟨gv, cv, e8, gi, gn, nG, nN⟩ := h.viewNode ha
  obtain ⟨cl, hcl⟩ : ∃ cl : Nat, cl = ncell n ((H.procs p).at_) + 1 := ⟨_, rfl⟩
  have n2 := gn 1 cl (by decide) hcl
  have hcb : cl < 2 * n + 3 * H.nodes.length := by rw [hcl]; exact ncell_lt ha (by decide)
  have x1 : (0 : Int) ≤ (((H.procs p).at_ : Nat) : Int) := by omega
  have x2 : (((H.procs p).at_ : Nat) : Int) < (H.nodes.length : Int) := by have := ha; omega
  clear gn
  have HW := Lib.hid (he_read (w := w.drew) (H := H) p0 p1 e4 h.mach.drew (c := cl) hcb nP nE)
  rw [hcl, cval_next] at HW
  rw [← hcl] at HW
  clear hcl
  go_enter Try.func106, Try.ntmps106
  go_wp2_with fail
  refine start_ (n := 22) (S := fun w' => w'.cell? ⟨R.pa p, 0, none⟩ = some (.pointer (some ⟨be, 0, none⟩)) ∧ w'.cell? ⟨R.pa p, 9, none⟩ = some (.int .i64 (H.procs p).at_) ∧ w'.cell? ⟨be, 8, none⟩ = some (.slice (some ⟨gv, 0, none⟩) H.nodes.length cv) ∧ w'.cell? ⟨gv, (H.procs p).at_, none⟩ = some (.pointer (some ⟨R.na ((H.procs p).at_), 0, none⟩)) ∧ w'.cell? ⟨R.na ((H.procs p).at_), 3, none⟩ = some (.int .i64 cl)) (ds := [21]) #[false, false, false, false, false, false, false, false, false, false, false, false, false, false, false, false, false, false, false, false, false, false] (by kernel_rfl) rfl rfl ⟨p0, p9, e8, gi, n2⟩ (fun hHeld => ?_)
  refine pure_ (i := 0) (N := some 4) (v := ?_) (a' := ?_) #[true, false, false, false, false, false, false, false, false, false, false, false, false, false, false, false, false, false, false, false, false, false] rfl rfl (by kernel_rfl) (fun _ _ _ h => h) (Or.inl ⟨by rfl, ?_⟩) ?_ ?_
  rotate_left
  · intro w'
    go_simp
    with_reducible rfl
  rotate_left
  · simp only [Act.put, nA, nB, nC, i64_w, i32_w]
    rfl
  refine pure_ (i := 1) (N := some 5) (v := ?_) (a' := ?_) #[true, true, false, false, false, false, false, false, false, false, false, false, false, false, false, false, false, false, false, false, false, false] rfl rfl (by kernel_rfl) (fun _ _ _ h => h) (Or.inl ⟨by rfl, ?_⟩) ?_ ?_
  rotate_left
  · intro w'
    go_simp
    with_reducible rfl
  rotate_left
  · simp only [Act.put, nA, nB, nC, i64_w, i32_w]
    rfl
  refine pure_ (i := 2) (N := some 6) (v := ?_) (a' := ?_) #[true, true, true, false, false, false, false, false, false, false, false, false, false, false, false, false, false, false, false, false, false, false] rfl rfl (by kernel_rfl) (fun _ _ _ h => h) (Or.inl ⟨by rfl, ?_⟩) ?_ ?_
  rotate_left
  · intro w'
    go_simp
    with_reducible rfl
  rotate_left
  · simp only [Act.put, nA, nB, nC, i64_w, i32_w]
    rfl
  refine pure_ (i := 3) (N := some 7) (v := ?_) (a' := ?_) #[true, true, true, true, false, false, false, false, false, false, false, false, false, false, false, false, false, false, false, false, false, false] rfl rfl (by kernel_rfl) (fun _ _ _ h => h) (Or.inl ⟨by rfl, ?_⟩) ?_ ?_
  rotate_left
  · intro w'
    go_simp
    with_reducible rfl
  rotate_left
  · simp only [Act.put, nA, nB, nC, i64_w, i32_w]
    rfl
  refine pure_ (i := 4) (N := some 8) (v := ?_) (a' := ?_) #[true, true, true, true, true, false, false, false, false, false, false, false, false, false, false, false, false, false, false, false, false, false] rfl rfl (by kernel_rfl) (fun _ _ _ h => h) (Or.inl ⟨by rfl, ?_⟩) ?_ ?_
  rotate_left
  · intro w'
    go_simp
    with_reducible rfl
  rotate_left
  · simp only [Act.put, nA, nB, nC, i64_w, i32_w]
    rfl
  refine pure_ (i := 9) (N := some 13) (v := ?_) (a' := ?_) #[true, true, true, true, true, false, false, false, false, true, false, false, false, false, false, false, false, false, false, false, false, false] rfl rfl (by kernel_rfl) (fun _ _ _ h => h) (Or.inl ⟨by rfl, ?_⟩) ?_ ?_
  rotate_left
  · intro w'
    go_simp
    with_reducible rfl
  rotate_left
  · simp only [Act.put, nA, nB, nC, i64_w, i32_w]
    rfl
  refine pure_ (i := 10) (N := some 14) (v := ?_) (a' := ?_) #[true, true, true, true, true, false, false, false, false, true, true, false, false, false, false, false, false, false, false, false, false, false] rfl rfl (by kernel_rfl) (fun _ _ _ h => h) (Or.inl ⟨by rfl, ?_⟩) ?_ ?_
  rotate_left
  · intro w'
    go_simp
    with_reducible rfl
  rotate_left
  · simp only [Act.put, nA, nB, nC, i64_w, i32_w]
    rfl
  refine pure_ (i := 11) (N := some 15) (v := ?_) (a' := ?_) #[true, true, true, true, true, false, false, false, false, true, true, true, false, false, false, false, false, false, false, false, false, false] rfl rfl (by kernel_rfl) (fun _ _ _ h => h) (Or.inl ⟨by rfl, ?_⟩) ?_ ?_
  rotate_left
  · intro w'
    go_simp
    with_reducible rfl
  rotate_left
  · simp only [Act.put, nA, nB, nC, i64_w, i32_w]
    rfl
  refine take_ (i := 5) (N := some 9) (v := ?_) (a' := ?_) #[true, true, true, true, true, true, false, false, false, true, true, true, false, false, false, false, false, false, false, false, false, false] rfl rfl (by kernel_rfl) (fun _ _ _ h => h) (Or.inl ⟨by rfl, ?_⟩) hHeld ?_ ?_
  rotate_left
  · rintro w' ⟨s0, s1, s2, s3, s4⟩
    go_simp
    with_reducible rfl
  rotate_left
  · simp only [Act.put, nA, nB, nC, i64_w, i32_w]
    rfl
  refine pure_ (i := 6) (N := some 10) (v := ?_) (a' := ?_) #[true, true, true, true, true, true, true, false, false, true, true, true, false, false, false, false, false, false, false, false, false, false] rfl rfl (by kernel_rfl) (fun _ _ _ h => h) (Or.inl ⟨by rfl, ?_⟩) ?_ ?_
  rotate_left
  · intro w'
    go_simp
    with_reducible rfl
  rotate_left
  · simp only [Act.put, nA, nB, nC, i64_w, i32_w]
    rfl
  refine pure_ (i := 7) (N := some 11) (v := ?_) (a' := ?_) #[true, true, true, true, true, true, true, true, false, true, true, true, false, false, false, false, false, false, false, false, false, false] rfl rfl (by kernel_rfl) (fun _ _ _ h => h) (Or.inl ⟨by rfl, ?_⟩) ?_ ?_
  rotate_left
  · intro w'
    go_simp
    with_reducible rfl
  rotate_left
  · simp only [Act.put, nA, nB, nC, i64_w, i32_w]
    rfl
  refine take_ (i := 8) (N := some 12) (v := ?_) (a' := ?_) #[true, true, true, true, true, true, true, true, true, true, true, true, false, false, false, false, false, false, false, false, false, false] rfl rfl (by kernel_rfl) (fun _ _ _ h => h) (Or.inl ⟨by rfl, ?_⟩) hHeld ?_ ?_
  rotate_left
  · rintro w' ⟨s0, s1, s2, s3, s4⟩
    go_simp
    with_reducible rfl
  rotate_left
  · simp only [Act.put, nA, nB, nC, i64_w, i32_w]
    rfl
  refine take_ (i := 12) (N := some 16) (v := ?_) (a' := ?_) #[true, true, true, true, true, true, true, true, true, true, true, true, true, false, false, false, false, false, false, false, false, false] rfl rfl (by kernel_rfl) (fun _ _ _ h => h) (Or.inl ⟨by rfl, ?_⟩) hHeld ?_ ?_
  rotate_left
  · rintro w' ⟨s0, s1, s2, s3, s4⟩
    go_simp
    with_reducible rfl
  rotate_left
  · simp only [Act.put, nA, nB, nC, i64_w, i32_w]
    rfl
  refine pure_ (i := 13) (N := some 17) (v := ?_) (a' := ?_) #[true, true, true, true, true, true, true, true, true, true, true, true, true, true, false, false, false, false, false, false, false, false] rfl rfl (by kernel_rfl) (fun _ _ _ h => h) (Or.inl ⟨by rfl, ?_⟩) ?_ ?_
  rotate_left
  · intro w'
    go_simp
    with_reducible rfl
  rotate_left
  · simp only [Act.put, nA, nB, nC, i64_w, i32_w]
    rfl
  refine take_ (i := 14) (N := some 18) (v := ?_) (a' := ?_) #[true, true, true, true, true, true, true, true, true, true, true, true, true, true, true, false, false, false, false, false, false, false] rfl rfl (by kernel_rfl) (fun _ _ _ h => h) (Or.inl ⟨by rfl, ?_⟩) hHeld ?_ ?_
  rotate_left
  · rintro w' ⟨s0, s1, s2, s3, s4⟩
    go_simp
    with_reducible rfl
  rotate_left
  · simp only [Act.put, nA, nB, nC, i64_w, i32_w]
    rfl
  refine pure_ (i := 15) (N := some 19) (v := ?_) (a' := ?_) #[true, true, true, true, true, true, true, true, true, true, true, true, true, true, true, true, false, false, false, false, false, false] rfl rfl (by kernel_rfl) (fun _ _ _ h => h) (Or.inl ⟨by rfl, ?_⟩) ?_ ?_
  rotate_left
  · intro w'
    go_simp
    with_reducible rfl
  rotate_left
  · simp only [Act.put, nA, nB, nC, i64_w, i32_w]
    rfl
  refine pure_ (i := 16) (N := some 20) (v := ?_) (a' := ?_) #[true, true, true, true, true, true, true, true, true, true, true, true, true, true, true, true, true, false, false, false, false, false] rfl rfl (by kernel_rfl) (fun _ _ _ h => h) (Or.inl ⟨by rfl, ?_⟩) ?_ ?_
  rotate_left
  · intro w'
    go_simp
    with_reducible rfl
  rotate_left
  · simp only [Act.put, nA, nB, nC, i64_w, i32_w]
    rfl
  refine take_ (i := 17) (N := some 21) (v := ?_) (a' := ?_) #[true, true, true, true, true, true, true, true, true, true, true, true, true, true, true, true, true, true, false, false, false, false] rfl rfl (by kernel_rfl) (fun _ _ _ h => h) (Or.inl ⟨by rfl, ?_⟩) hHeld ?_ ?_
  rotate_left
  · rintro w' ⟨s0, s1, s2, s3, s4⟩
    go_simp
    with_reducible rfl
  rotate_left
  · simp only [Act.put, nA, nB, nC, i64_w, i32_w]
    rfl
  refine one_ (i := 18) (N := some 22) #[true, true, true, true, true, true, true, true, true, true, true, true, true, true, true, true, true, true, true, false, false, false] rfl rfl (by kernel_rfl) (by decide) (fun K hK => ?_)
  refine goes_ Try.func88 (by kernel_rfl) rfl #[.pointer (some ⟨R.pa p, 0, none⟩), .int .i64 cl] (by rfl) rfl rfl (by simp only [List.map_toArray, List.map_cons, List.map_nil]; rfl) ?_
  with_reducible refine (HW.out).mono ?_
  rintro e w3 ⟨rfl, ⟨s3, hM3⟩, hK3⟩
  refine ⟨_, rfl, ?_⟩
  have hB3 := hx.blk.drew.keeps hK3 nP
  have p8 : w3.cell? ⟨R.pa p, 8, none⟩ = some (.int .i64 (H.procs p).after) := hB3.cell 8
  have f8 := hB3.frozen 8
  try clear hHeld
  refine hK.out _ _ ⟨hK3.cellSome nP p0, hK3.cellSome nP p9, hK3.cellSome nE e8, hK3.cellSome nG gi, hK3.cellSome nN n2⟩ (fun hHeld => ?_)
  clear hK K
  refine norm_ (a' := ?_) ?_ ?_
  rotate_left
  · show Act.put _ (some 22) _ = _
    simp only [Act.put, nA, nB, nC, i64_w, i32_w]
    rfl
  refine pure_ (i := 19) (N := some 23) (v := ?_) (a' := ?_) #[true, true, true, true, true, true, true, true, true, true, true, true, true, true, true, true, true, true, true, true, false, false] rfl rfl (by kernel_rfl) (fun _ _ _ h => h) (Or.inl ⟨by rfl, ?_⟩) ?_ ?_
  rotate_left
  · intro w'
    go_simp
    with_reducible rfl
  rotate_left
  · simp only [Act.put, nA, nB, nC, i64_w, i32_w]
    rfl
  refine pure_ (i := 20) (N := some 24) (v := ?_) (a' := ?_) #[true, true, true, true, true, true, true, true, true, true, true, true, true, true, true, true, true, true, true, true, true, false] rfl rfl (by kernel_rfl) (fun _ _ _ h => h) (Or.inl ⟨by rfl, ?_⟩) ?_ ?_
  rotate_left
  · intro w'
    go_simp
    with_reducible rfl
  rotate_left
  · simp only [Act.put, nA, nB, nC, i64_w, i32_w]
    rfl
  refine last_ (i := 21) (N := none) #[true, true, true, true, true, true, true, true, true, true, true, true, true, true, true, true, true, true, true, true, true, true] rfl rfl (by kernel_rfl) (by decide) (fun K hK => ?_)
  refine skip_ (w1 := ?_) (by rfl) rfl ?_ ?_
  rotate_left
  · go_simp
    rfl
  try clear hHeld
  refine hK.out _ _ ?_
  clear hK K
  try clear hHeld
  refine done_ (by kernel_rfl) ?_
  clear p0 p1 p9 e4 e5 e6 e8 gi n2 p8
  have hB4 := hB3.set 8 (.int .i64 (nextOf H.chain (H.procs p).at_))
  have c5 := hB4.cell 5
  have f5 := hB4.frozen 5
  have HC := Lib.hid c5
  clear c5
  go_wp2_with (go_at_call 78; refine (he_goes _ _ _ _ _ _ HC.out f5).mono ?_; rintro e w5 ⟨rfl, rfl⟩)
  go_ret2
  refine h.fin hp (steps := s3) ((((Keeps.refl _ _).drew.trans' (hK3.mono fun k hk => .inl hk)).set _ 8 (.inl (.inr rfl)) _).set _ 5 (.inl (.inr rfl)) _) rfl (same_nodes H) (R.bef p) ?_ ?_ _
  · exact ((hM3.other nP _).other nP _)
  · exact hB4.set 5 _

set_option maxRecDepth 100000 in
set_option maxHeartbeats 1600000 in
theorem he_check_no {w : World} {base be n p : Nat} {R : HRef} {s : St} {H : HS} (h : HRep w base be R n s H) (hp : p < n) (hph : (H.procs p).ph = .check) (ho : (H.procs p).other < H.nodes.length) (hc : (H.nd (H.procs p).other).place ≠ 0) :
    Calls Try.prog 105 #[.pointer (some ⟨R.pa p, 0, none⟩)] w (HPost w base be R n s (H.step n p).1 (.tuple #[.int .i64 0, .bool false])) := by
  have e0 : (H.step n p).1 = ⟨H.nodes, H.chain, H.ann, H.head, upd H.procs p { H.procs p with prefer := (H.procs p).prefer, ph := .swap }⟩ := by unfold HS.step; rw [hph]; simp [HS.stp, HS.put, hc]
  rw [e0]
  have hx := h.proc p hp
  have p0 : w.cell? ⟨R.pa p, 0, none⟩ = some (.pointer (some ⟨be, 0, none⟩)) := hx.blk.cell 0
  have p1 : w.cell? ⟨R.pa p, 1, none⟩ = some (.int .i64 p) := hx.blk.cell 1
  have e4 : w.cell? ⟨be, 4, none⟩ = some (.pointer (some ⟨R.bm, 0, none⟩)) := h.eng.cell 4
  have e5 : w.cell? ⟨be, 5, none⟩ = some (.int .i64 0) := h.eng.cell 5
  have e6 : w.cell? ⟨be, 6, none⟩ = some (.int .i64 n) := h.eng.cell 6
  have nP := h.nP hp
  have nE := h.nE
  have hsm := h.small
  have hm := hmf
  have p7 : w.cell? ⟨R.pa p, 7, none⟩ = some (.int .i64 (H.procs p).other) := hx.blk.cell 7
  obtain ⟨gv, cv, e8, gi, gn, nG, nN⟩ := h.viewNode ho
  obtain ⟨cl, hcl⟩ : ∃ cl : Nat, cl = ncell n ((H.procs p).other) + 0 := ⟨_, rfl⟩
  have n2 := gn 0 cl (by decide) hcl
  have hcb : cl < 2 * n + 3 * H.nodes.length := by rw [hcl]; exact ncell_lt ho (by decide)
  have x1 : (0 : Int) ≤ (((H.procs p).other : Nat) : Int) := by omega
  have x2 : (((H.procs p).other : Nat) : Int) < (H.nodes.length : Int) := by have := ho; omega
  clear gn
  have HW := Lib.hid (he_read (w := w.drew) (H := H) p0 p1 e4 h.mach.drew (c := cl) hcb nP nE)
  rw [hcl, Nat.add_zero, cval_place] at HW
  rw [Nat.add_zero] at hcl
  rw [← hcl] at HW
  have hb : (((H.nd (H.procs p).other).place : Int) == 0) = false := by simp; exact hc
  clear hcl
  go_enter Try.func105, Try.ntmps105
  go_wp2_with fail
  refine start_ (n := 19) (S := fun w' => w'.cell? ⟨R.pa p, 0, none⟩ = some (.pointer (some ⟨be, 0, none⟩)) ∧ w'.cell? ⟨R.pa p, 7, none⟩ = some (.int .i64 (H.procs p).other) ∧ w'.cell? ⟨be, 8, none⟩ = some (.slice (some ⟨gv, 0, none⟩) H.nodes.length cv) ∧ w'.cell? ⟨gv, (H.procs p).other, none⟩ = some (.pointer (some ⟨R.na ((H.procs p).other), 0, none⟩)) ∧ w'.cell? ⟨R.na ((H.procs p).other), 2, none⟩ = some (.int .i64 cl)) (ds := []) #[false, false, false, false, false, false, false, false, false, false, false, false, false, false, false, false, false, false, false] (by kernel_rfl) rfl rfl ⟨p0, p7, e8, gi, n2⟩ (fun hHeld => ?_)
  refine pure_ (i := 0) (N := some 4) (v := ?_) (a' := ?_) #[true, false, false, false, false, false, false, false, false, false, false, false, false, false, false, false, false, false, false] rfl rfl (by kernel_rfl) (fun _ _ _ h => h) (Or.inl ⟨by rfl, ?_⟩) ?_ ?_
  rotate_left
  · intro w'
    go_simp
    with_reducible rfl
  rotate_left
  · simp only [Act.put, nA, nB, nC, i64_w, i32_w]
    rfl
  refine pure_ (i := 1) (N := some 5) (v := ?_) (a' := ?_) #[true, true, false, false, false, false, false, false, false, false, false, false, false, false, false, false, false, false, false] rfl rfl (by kernel_rfl) (fun _ _ _ h => h) (Or.inl ⟨by rfl, ?_⟩) ?_ ?_
  rotate_left
  · intro w'
    go_simp
    with_reducible rfl
  rotate_left
  · simp only [Act.put, nA, nB, nC, i64_w, i32_w]
    rfl
  refine pure_ (i := 2) (N := some 6) (v := ?_) (a' := ?_) #[true, true, true, false, false, false, false, false, false, false, false, false, false, false, false, false, false, false, false] rfl rfl (by kernel_rfl) (fun _ _ _ h => h) (Or.inl ⟨by rfl, ?_⟩) ?_ ?_
  rotate_left
  · intro w'
    go_simp
    with_reducible rfl
  rotate_left
  · simp only [Act.put, nA, nB, nC, i64_w, i32_w]
    rfl
  refine pure_ (i := 3) (N := some 7) (v := ?_) (a' := ?_) #[true, true, true, true, false, false, false, false, false, false, false, false, false, false, false, false, false, false, false] rfl rfl (by kernel_rfl) (fun _ _ _ h => h) (Or.inl ⟨by rfl, ?_⟩) ?_ ?_
  rotate_left
  · intro w'
    go_simp
    with_reducible rfl
  rotate_left
  · simp only [Act.put, nA, nB, nC, i64_w, i32_w]
    rfl
  refine pure_ (i := 8) (N := some 12) (v := ?_) (a' := ?_) #[true, true, true, true, false, false, false, false, true, false, false, false, false, false, false, false, false, false, false] rfl rfl (by kernel_rfl) (fun _ _ _ h => h) (Or.inl ⟨by rfl, ?_⟩) ?_ ?_
  rotate_left
  · intro w'
    go_simp
    with_reducible rfl
  rotate_left
  · simp only [Act.put, nA, nB, nC, i64_w, i32_w]
    rfl
  refine pure_ (i := 9) (N := some 13) (v := ?_) (a' := ?_) #[true, true, true, true, false, false, false, false, true, true, false, false, false, false, false, false, false, false, false] rfl rfl (by kernel_rfl) (fun _ _ _ h => h) (Or.inl ⟨by rfl, ?_⟩) ?_ ?_
  rotate_left
  · intro w'
    go_simp
    with_reducible rfl
  rotate_left
  · simp only [Act.put, nA, nB, nC, i64_w, i32_w]
    rfl
  refine pure_ (i := 10) (N := some 14) (v := ?_) (a' := ?_) #[true, true, true, true, false, false, false, false, true, true, true, false, false, false, false, false, false, false, false] rfl rfl (by kernel_rfl) (fun _ _ _ h => h) (Or.inl ⟨by rfl, ?_⟩) ?_ ?_
  rotate_left
  · intro w'
    go_simp
    with_reducible rfl
  rotate_left
  · simp only [Act.put, nA, nB, nC, i64_w, i32_w]
    rfl
  refine take_ (i := 4) (N := some 8) (v := ?_) (a' := ?_) #[true, true, true, true, true, false, false, false, true, true, true, false, false, false, false, false, false, false, false] rfl rfl (by kernel_rfl) (fun _ _ _ h => h) (Or.inl ⟨by rfl, ?_⟩) hHeld ?_ ?_
  rotate_left
  · rintro w' ⟨s0, s1, s2, s3, s4⟩
    go_simp
    with_reducible rfl
  rotate_left
  · simp only [Act.put, nA, nB, nC, i64_w, i32_w]
    rfl
  refine pure_ (i := 5) (N := some 9) (v := ?_) (a' := ?_) #[true, true, true, true, true, true, false, false, true, true, true, false, false, false, false, false, false, false, false] rfl rfl (by kernel_rfl) (fun _ _ _ h => h) (Or.inl ⟨by rfl, ?_⟩) ?_ ?_
  rotate_left
  · intro w'
    go_simp
    with_reducible rfl
  rotate_left
  · simp only [Act.put, nA, nB, nC, i64_w, i32_w]
    rfl
  refine pure_ (i := 6) (N := some 10) (v := ?_) (a' := ?_) #[true, true, true, true, true, true, true, false, true, true, true, false, false, false, false, false, false, false, false] rfl rfl (by kernel_rfl) (fun _ _ _ h => h) (Or.inl ⟨by rfl, ?_⟩) ?_ ?_
  rotate_left
  · intro w'
    go_simp
    with_reducible rfl
  rotate_left
  · simp only [Act.put, nA, nB, nC, i64_w, i32_w]
    rfl
  refine take_ (i := 7) (N := some 11) (v := ?_) (a' := ?_) #[true, true, true, true, true, true, true, true, true, true, true, false, false, false, false, false, false, false, false] rfl rfl (by kernel_rfl) (fun _ _ _ h => h) (Or.inl ⟨by rfl, ?_⟩) hHeld ?_ ?_
  rotate_left
  · rintro w' ⟨s0, s1, s2, s3, s4⟩
    go_simp
    with_reducible rfl
  rotate_left
  · simp only [Act.put, nA, nB, nC, i64_w, i32_w]
    rfl
  refine take_ (i := 11) (N := some 15) (v := ?_) (a' := ?_) #[true, true, true, true, true, true, true, true, true, true, true, true, false, false, false, false, false, false, false] rfl rfl (by kernel_rfl) (fun _ _ _ h => h) (Or.inl ⟨by rfl, ?_⟩) hHeld ?_ ?_
  rotate_left
  · rintro w' ⟨s0, s1, s2, s3, s4⟩
    go_simp
    with_reducible rfl
  rotate_left
  · simp only [Act.put, nA, nB, nC, i64_w, i32_w]
    rfl
  refine pure_ (i := 12) (N := some 16) (v := ?_) (a' := ?_) #[true, true, true, true, true, true, true, true, true, true, true, true, true, false, false, false, false, false, false] rfl rfl (by kernel_rfl) (fun _ _ _ h => h) (Or.inl ⟨by rfl, ?_⟩) ?_ ?_
  rotate_left
  · intro w'
    go_simp
    with_reducible rfl
  rotate_left
  · simp only [Act.put, nA, nB, nC, i64_w, i32_w]
    rfl
  refine take_ (i := 13) (N := some 17) (v := ?_) (a' := ?_) #[true, true, true, true, true, true, true, true, true, true, true, true, true, true, false, false, false, false, false] rfl rfl (by kernel_rfl) (fun _ _ _ h => h) (Or.inl ⟨by rfl, ?_⟩) hHeld ?_ ?_
  rotate_left
  · rintro w' ⟨s0, s1, s2, s3, s4⟩
    go_simp
    with_reducible rfl
  rotate_left
  · simp only [Act.put, nA, nB, nC, i64_w, i32_w]
    rfl
  refine pure_ (i := 14) (N := some 18) (v := ?_) (a' := ?_) #[true, true, true, true, true, true, true, true, true, true, true, true, true, true, true, false, false, false, false] rfl rfl (by kernel_rfl) (fun _ _ _ h => h) (Or.inl ⟨by rfl, ?_⟩) ?_ ?_
  rotate_left
  · intro w'
    go_simp
    with_reducible rfl
  rotate_left
  · simp only [Act.put, nA, nB, nC, i64_w, i32_w]
    rfl
  refine pure_ (i := 15) (N := some 19) (v := ?_) (a' := ?_) #[true, true, true, true, true, true, true, true, true, true, true, true, true, true, true, true, false, false, false] rfl rfl (by kernel_rfl) (fun _ _ _ h => h) (Or.inl ⟨by rfl, ?_⟩) ?_ ?_
  rotate_left
  · intro w'
    go_simp
    with_reducible rfl
  rotate_left
  · simp only [Act.put, nA, nB, nC, i64_w, i32_w]
    rfl
  refine take_ (i := 16) (N := some 20) (v := ?_) (a' := ?_) #[true, true, true, true, true, true, true, true, true, true, true, true, true, true, true, true, true, false, false] rfl rfl (by kernel_rfl) (fun _ _ _ h => h) (Or.inl ⟨by rfl, ?_⟩) hHeld ?_ ?_
  rotate_left
  · rintro w' ⟨s0, s1, s2, s3, s4⟩
    go_simp
    with_reducible rfl
  rotate_left
  · simp only [Act.put, nA, nB, nC, i64_w, i32_w]
    rfl
  refine one_ (i := 17) (N := some 21) #[true, true, true, true, true, true, true, true, true, true, true, true, true, true, true, true, true, true, false] rfl rfl (by kernel_rfl) (by decide) (fun K hK => ?_)
  refine goes_ Try.func88 (by kernel_rfl) rfl #[.pointer (some ⟨R.pa p, 0, none⟩), .int .i64 cl] (by rfl) rfl rfl (by simp only [List.map_toArray, List.map_cons, List.map_nil]; rfl) ?_
  with_reducible refine (HW.out).mono ?_
  rintro e w3 ⟨rfl, ⟨s3, hM3⟩, hK3⟩
  refine ⟨_, rfl, ?_⟩
  try clear hHeld
  refine hK.out _ _ ⟨hK3.cellSome nP p0, hK3.cellSome nP p7, hK3.cellSome nE e8, hK3.cellSome nG gi, hK3.cellSome nN n2⟩ (fun hHeld => ?_)
  clear hK K
  refine norm_ (a' := ?_) ?_ ?_
  rotate_left
  · show Act.put _ (some 21) _ = _
    simp only [Act.put, nA, nB, nC, i64_w, i32_w]
    rfl
  refine pure_ (i := 18) (N := some 22) (v := ?_) (a' := ?_) #[true, true, true, true, true, true, true, true, true, true, true, true, true, true, true, true, true, true, true] rfl rfl (by kernel_rfl) (fun _ _ _ h => h) (Or.inl ⟨by rfl, ?_⟩) ?_ ?_
  rotate_left
  · intro w'
    go_simp
    with_reducible rfl
  rotate_left
  · simp only [Act.put, nA, nB, nC, i64_w, i32_w]
    rfl
  try clear hHeld
  refine done_ (by kernel_rfl) ?_
  clear p0 p1 p7 e4 e5 e6 e8 gi n2
  have hB3 := hx.blk.drew.keeps hK3 nP
  have hB4 := hB3
  have c5 := hB4.cell 5
  have f5 := hB4.frozen 5
  have HC := Lib.hid c5
  clear c5
  go_wp2_with (go_at_call 78; refine (he_goes _ _ _ _ _ _ HC.out f5).mono ?_; rintro e w5 ⟨rfl, rfl⟩)
  go_ret2
  refine h.fin hp (steps := s3) (((Keeps.refl _ _).drew.trans' (hK3.mono fun k hk => .inl hk)).set _ 5 (.inl (.inr rfl)) _) rfl (same_nodes H) (R.bef p) ?_ ?_ _
  · exact (hM3.other nP _)
  · exact hB4.set 5 _

set_option maxRecDepth 100000 in
set_option maxHeartbeats 1600000 in
theorem he_check_yes {w : World} {base be n p : Nat} {R : HRef} {s : St} {H : HS} (h : HRep w base be R n s H) (hp : p < n) (hph : (H.procs p).ph = .check) (ho : (H.procs p).other < H.nodes.length) (hc : (H.nd (H.procs p).other).place = 0) :
    Calls Try.prog 105 #[.pointer (some ⟨R.pa p, 0, none⟩)] w (HPost w base be R n s (H.step n p).1 (.tuple #[.int .i64 0, .bool false])) := by
  have e0 : (H.step n p).1 = ⟨H.nodes, H.chain, H.ann, H.head, upd H.procs p { H.procs p with prefer := (H.procs p).other, ph := .swap }⟩ := by unfold HS.step; rw [hph]; simp [HS.stp, HS.put, hc]
  rw [e0]
  have hx := h.proc p hp
  have p0 : w.cell? ⟨R.pa p, 0, none⟩ = some (.pointer (some ⟨be, 0, none⟩)) := hx.blk.cell 0
  have p1 : w.cell? ⟨R.pa p, 1, none⟩ = some (.int .i64 p) := hx.blk.cell 1
  have e4 : w.cell? ⟨be, 4, none⟩ = some (.pointer (some ⟨R.bm, 0, none⟩)) := h.eng.cell 4
  have e5 : w.cell? ⟨be, 5, none⟩ = some (.int .i64 0) := h.eng.cell 5
  have e6 : w.cell? ⟨be, 6, none⟩ = some (.int .i64 n) := h.eng.cell 6
  have nP := h.nP hp
  have nE := h.nE
  have hsm := h.small
  have hm := hmf
  have p7 : w.cell? ⟨R.pa p, 7, none⟩ = some (.int .i64 (H.procs p).other) := hx.blk.cell 7
  obtain ⟨gv, cv, e8, gi, gn, nG, nN⟩ := h.viewNode ho
  obtain ⟨cl, hcl⟩ : ∃ cl : Nat, cl = ncell n ((H.procs p).other) + 0 := ⟨_, rfl⟩
  have n2 := gn 0 cl (by decide) hcl
  have hcb : cl < 2 * n + 3 * H.nodes.length := by rw [hcl]; exact ncell_lt ho (by decide)
  have x1 : (0 : Int) ≤ (((H.procs p).other : Nat) : Int) := by omega
  have x2 : (((H.procs p).other : Nat) : Int) < (H.nodes.length : Int) := by have := ho; omega
  clear gn
  have HW := Lib.hid (he_read (w := w.drew) (H := H) p0 p1 e4 h.mach.drew (c := cl) hcb nP nE)
  rw [hcl, Nat.add_zero, cval_place] at HW
  rw [Nat.add_zero] at hcl
  rw [← hcl] at HW
  rw [hc] at HW
  clear hcl
  go_enter Try.func105, Try.ntmps105
  go_wp2_with fail
  refine start_ (n := 19) (S := fun w' => w'.cell? ⟨R.pa p, 0, none⟩ = some (.pointer (some ⟨be, 0, none⟩)) ∧ w'.cell? ⟨R.pa p, 7, none⟩ = some (.int .i64 (H.procs p).other) ∧ w'.cell? ⟨be, 8, none⟩ = some (.slice (some ⟨gv, 0, none⟩) H.nodes.length cv) ∧ w'.cell? ⟨gv, (H.procs p).other, none⟩ = some (.pointer (some ⟨R.na ((H.procs p).other), 0, none⟩)) ∧ w'.cell? ⟨R.na ((H.procs p).other), 2, none⟩ = some (.int .i64 cl)) (ds := []) #[false, false, false, false, false, false, false, false, false, false, false, false, false, false, false, false, false, false, false] (by kernel_rfl) rfl rfl ⟨p0, p7, e8, gi, n2⟩ (fun hHeld => ?_)
  refine pure_ (i := 0) (N := some 4) (v := ?_) (a' := ?_) #[true, false, false, false, false, false, false, false, false, false, false, false, false, false, false, false, false, false, false] rfl rfl (by kernel_rfl) (fun _ _ _ h => h) (Or.inl ⟨by rfl, ?_⟩) ?_ ?_
  rotate_left
  · intro w'
    go_simp
    with_reducible rfl
  rotate_left
  · simp only [Act.put, nA, nB, nC, i64_w, i32_w]
    rfl
  refine pure_ (i := 1) (N := some 5) (v := ?_) (a' := ?_) #[true, true, false, false, false, false, false, false, false, false, false, false, false, false, false, false, false, false, false] rfl rfl (by kernel_rfl) (fun _ _ _ h => h) (Or.inl ⟨by rfl, ?_⟩) ?_ ?_
  rotate_left
  · intro w'
    go_simp
    with_reducible rfl
  rotate_left
  · simp only [Act.put, nA, nB, nC, i64_w, i32_w]
    rfl
  refine pure_ (i := 2) (N := some 6) (v := ?_) (a' := ?_) #[true, true, true, false, false, false, false, false, false, false, false, false, false, false, false, false, false, false, false] rfl rfl (by kernel_rfl) (fun _ _ _ h => h) (Or.inl ⟨by rfl, ?_⟩) ?_ ?_
  rotate_left
  · intro w'
    go_simp
    with_reducible rfl
  rotate_left
  · simp only [Act.put, nA, nB, nC, i64_w, i32_w]
    rfl
  refine pure_ (i := 3) (N := some 7) (v := ?_) (a' := ?_) #[true, true, true, true, false, false, false, false, false, false, false, false, false, false, false, false, false, false, false] rfl rfl (by kernel_rfl) (fun _ _ _ h => h) (Or.inl ⟨by rfl, ?_⟩) ?_ ?_
  rotate_left
  · intro w'
    go_simp
    with_reducible rfl
  rotate_left
  · simp only [Act.put, nA, nB, nC, i64_w, i32_w]
    rfl
  refine pure_ (i := 8) (N := some 12) (v := ?_) (a' := ?_) #[true, true, true, true, false, false, false, false, true, false, false, false, false, false, false, false, false, false, false] rfl rfl (by kernel_rfl) (fun _ _ _ h => h) (Or.inl ⟨by rfl, ?_⟩) ?_ ?_
  rotate_left
  · intro w'
    go_simp
    with_reducible rfl
  rotate_left
  · simp only [Act.put, nA, nB, nC, i64_w, i32_w]
    rfl
  refine pure_ (i := 9) (N := some 13) (v := ?_) (a' := ?_) #[true, true, true, true, false, false, false, false, true, true, false, false, false, false, false, false, false, false, false] rfl rfl (by kernel_rfl) (fun _ _ _ h => h) (Or.inl ⟨by rfl, ?_⟩) ?_ ?_
  rotate_left
  · intro w'
    go_simp
    with_reducible rfl
  rotate_left
  · simp only [Act.put, nA, nB, nC, i64_w, i32_w]
    rfl
  refine pure_ (i := 10) (N := some 14) (v := ?_) (a' := ?_) #[true, true, true, true, false, false, false, false, true, true, true, false, false, false, false, false, false, false, false] rfl rfl (by kernel_rfl) (fun _ _ _ h => h) (Or.inl ⟨by rfl, ?_⟩) ?_ ?_
  rotate_left
  · intro w'
    go_simp
    with_reducible rfl
  rotate_left
  · simp only [Act.put, nA, nB, nC, i64_w, i32_w]
    rfl
  refine take_ (i := 4) (N := some 8) (v := ?_) (a' := ?_) #[true, true, true, true, true, false, false, false, true, true, true, false, false, false, false, false, false, false, false] rfl rfl (by kernel_rfl) (fun _ _ _ h => h) (Or.inl ⟨by rfl, ?_⟩) hHeld ?_ ?_
  rotate_left
  · rintro w' ⟨s0, s1, s2, s3, s4⟩
    go_simp
    with_reducible rfl
  rotate_left
  · simp only [Act.put, nA, nB, nC, i64_w, i32_w]
    rfl
  refine pure_ (i := 5) (N := some 9) (v := ?_) (a' := ?_) #[true, true, true, true, true, true, false, false, true, true, true, false, false, false, false, false, false, false, false] rfl rfl (by kernel_rfl) (fun _ _ _ h => h) (Or.inl ⟨by rfl, ?_⟩) ?_ ?_
  rotate_left
  · intro w'
    go_simp
    with_reducible rfl
  rotate_left
  · simp only [Act.put, nA, nB, nC, i64_w, i32_w]
    rfl
  refine pure_ (i := 6) (N := some 10) (v := ?_) (a' := ?_) #[true, true, true, true, true, true, true, false, true, true, true, false, false, false, false, false, false, false, false] rfl rfl (by kernel_rfl) (fun _ _ _ h => h) (Or.inl ⟨by rfl, ?_⟩) ?_ ?_
  rotate_left
  · intro w'
    go_simp
    with_reducible rfl
  rotate_left
  · simp only [Act.put, nA, nB, nC, i64_w, i32_w]
    rfl
  refine take_ (i := 7) (N := some 11) (v := ?_) (a' := ?_) #[true, true, true, true, true, true, true, true, true, true, true, false, false, false, false, false, false, false, false] rfl rfl (by kernel_rfl) (fun _ _ _ h => h) (Or.inl ⟨by rfl, ?_⟩) hHeld ?_ ?_
  rotate_left
  · rintro w' ⟨s0, s1, s2, s3, s4⟩
    go_simp
    with_reducible rfl
  rotate_left
  · simp only [Act.put, nA, nB, nC, i64_w, i32_w]
    rfl
  refine take_ (i := 11) (N := some 15) (v := ?_) (a' := ?_) #[true, true, true, true, true, true, true, true, true, true, true, true, false, false, false, false, false, false, false] rfl rfl (by kernel_rfl) (fun _ _ _ h => h) (Or.inl ⟨by rfl, ?_⟩) hHeld ?_ ?_
  rotate_left
  · rintro w' ⟨s0, s1, s2, s3, s4⟩
    go_simp
    with_reducible rfl
  rotate_left
  · simp only [Act.put, nA, nB, nC, i64_w, i32_w]
    rfl
  refine pure_ (i := 12) (N := some 16) (v := ?_) (a' := ?_) #[true, true, true, true, true, true, true, true, true, true, true, true, true, false, false, false, false, false, false] rfl rfl (by kernel_rfl) (fun _ _ _ h => h) (Or.inl ⟨by rfl, ?_⟩) ?_ ?_
  rotate_left
  · intro w'
    go_simp
    with_reducible rfl
  rotate_left
  · simp only [Act.put, nA, nB, nC, i64_w, i32_w]
    rfl
  refine take_ (i := 13) (N := some 17) (v := ?_) (a' := ?_) #[true, true, true, true, true, true, true, true, true, true, true, true, true, true, false, false, false, false, false] rfl rfl (by kernel_rfl) (fun _ _ _ h => h) (Or.inl ⟨by rfl, ?_⟩) hHeld ?_ ?_
  rotate_left
  · rintro w' ⟨s0, s1, s2, s3, s4⟩
    go_simp
    with_reducible rfl
  rotate_left
  · simp only [Act.put, nA, nB, nC, i64_w, i32_w]
    rfl
  refine pure_ (i := 14) (N := some 18) (v := ?_) (a' := ?_) #[true, true, true, true, true, true, true, true, true, true, true, true, true, true, true, false, false, false, false] rfl rfl (by kernel_rfl) (fun _ _ _ h => h) (Or.inl ⟨by rfl, ?_⟩) ?_ ?_
  rotate_left
  · intro w'
    go_simp
    with_reducible rfl
  rotate_left
  · simp only [Act.put, nA, nB, nC, i64_w, i32_w]
    rfl
  refine pure_ (i := 15) (N := some 19) (v := ?_) (a' := ?_) #[true, true, true, true, true, true, true, true, true, true, true, true, true, true, true, true, false, false, false] rfl rfl (by kernel_rfl) (fun _ _ _ h => h) (Or.inl ⟨by rfl, ?_⟩) ?_ ?_
  rotate_left
  · intro w'
    go_simp
    with_reducible rfl
  rotate_left
  · simp only [Act.put, nA, nB, nC, i64_w, i32_w]
    rfl
  refine take_ (i := 16) (N := some 20) (v := ?_) (a' := ?_) #[true, true, true, true, true, true, true, true, true, true, true, true, true, true, true, true, true, false, false] rfl rfl (by kernel_rfl) (fun _ _ _ h => h) (Or.inl ⟨by rfl, ?_⟩) hHeld ?_ ?_
  rotate_left
  · rintro w' ⟨s0, s1, s2, s3, s4⟩
    go_simp
    with_reducible rfl
  rotate_left
  · simp only [Act.put, nA, nB, nC, i64_w, i32_w]
    rfl
  refine one_ (i := 17) (N := some 21) #[true, true, true, true, true, true, true, true, true, true, true, true, true, true, true, true, true, true, false] rfl rfl (by kernel_rfl) (by decide) (fun K hK => ?_)
  refine goes_ Try.func88 (by kernel_rfl) rfl #[.pointer (some ⟨R.pa p, 0, none⟩), .int .i64 cl] (by rfl) rfl rfl (by simp only [List.map_toArray, List.map_cons, List.map_nil]; rfl) ?_
  with_reducible refine (HW.out).mono ?_
  rintro e w3 ⟨rfl, ⟨s3, hM3⟩, hK3⟩
  refine ⟨_, rfl, ?_⟩
  try clear hHeld
  refine hK.out _ _ ⟨hK3.cellSome nP p0, hK3.cellSome nP p7, hK3.cellSome nE e8, hK3.cellSome nG gi, hK3.cellSome nN n2⟩ (fun hHeld => ?_)
  clear hK K
  refine norm_ (a' := ?_) ?_ ?_
  rotate_left
  · show Act.put _ (some 21) _ = _
    simp only [Act.put, nA, nB, nC, i64_w, i32_w]
    rfl
  refine pure_ (i := 18) (N := some 22) (v := ?_) (a' := ?_) #[true, true, true, true, true, true, true, true, true, true, true, true, true, true, true, true, true, true, true] rfl rfl (by kernel_rfl) (fun _ _ _ h => h) (Or.inl ⟨by rfl, ?_⟩) ?_ ?_
  rotate_left
  · intro w'
    go_simp
    with_reducible rfl
  rotate_left
  · simp only [Act.put, nA, nB, nC, i64_w, i32_w]
    rfl
  try clear hHeld
  refine done_ (by kernel_rfl) ?_
  clear p0 p1 p7 e4 e5 e6 e8 gi n2
  have hB3 := hx.blk.drew.keeps hK3 nP
  have p7 : w3.cell? ⟨R.pa p, 7, none⟩ = some (.int .i64 (H.procs p).other) := hB3.cell 7
  have p11 : w3.cell? ⟨R.pa p, 11, none⟩ = some (.int .i64 (H.procs p).prefer) := hB3.cell 11
  have f11 := hB3.frozen 11
  have hB4 := hB3.set 11 (.int .i64 (H.procs p).other)
  have c5 := hB4.cell 5
  have f5 := hB4.frozen 5
  have HC := Lib.hid c5
  clear c5
  go_wp2_with (go_at_call 78; refine (he_goes _ _ _ _ _ _ HC.out f5).mono ?_; rintro e w5 ⟨rfl, rfl⟩)
  go_ret2
  refine h.fin hp (steps := s3) ((((Keeps.refl _ _).drew.trans' (hK3.mono fun k hk => .inl hk)).set _ 11 (.inl (.inr rfl)) _).set _ 5 (.inl (.inr rfl)) _) rfl (same_nodes H) (R.bef p) ?_ ?_ _
  · exact ((hM3.other nP _).other nP _)
  · exact hB4.set 5 _
end Go.Proofs.Ytjfenjnnpikkdaa
