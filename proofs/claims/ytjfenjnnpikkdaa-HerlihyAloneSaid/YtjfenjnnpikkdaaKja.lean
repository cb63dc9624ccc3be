/-
  Package herlihy: add.
-/
import Derived.Test.YtjfenjnnpikkdaaKe
import Derived.Test.YtjfenjnnpikkdaaKha
import Derived.Test.YtjfenjnnpikkdaaKj
set_option linter.unusedVariables false
set_option linter.unusedSimpArgs false
namespace Go.Proofs.Ytjfenjnnpikkdaa
set_option maxRecDepth 100000
open Go.RowKit
open Go.Proofs.YtjfenjnnpikkdaaW.PrintLast

theorem infoNP : (Try.prog.info? 100).map (fun i => (i.zero, i.size, i.bytes)) = some (some (.pointer none), 1, 8) := by kernel_rfl
theorem infoHP : (Try.prog.info? 96).map (fun i => (i.zero, i.size, i.bytes)) = some (some (.pointer none), 1, 8) := by kernel_rfl
theorem mach_cell1 {w : World} {bm : Nat} {vc vs : Value} {C S : List Int} (h : Mach w bm vc vs ⟨C, S⟩) (hn : C.length ≤ 1099511627776) :
    Calls Try.prog 39 #[.pointer (some ⟨bm, 0, none⟩), .int .i64 1] w fun e w' =>
      e = .returned (.int .i64 C.length) ∧ ∃ vc', Mach w' bm vc' vs ⟨C ++ [0], S⟩ ∧ Keeps (machF bm vc vs) w w' ∧ (∀ k, machF bm vc' vs k → machF bm vc vs k ∨ w.heap.size ≤ k) := by
  have := mach_cells h 1 hn
  rw [if_pos (by omega)] at this
  refine this.mono ?_
  rintro e w' ⟨rfl, vc', h1, h2, h3⟩
  exact ⟨rfl, vc', h1, h2, h3⟩
/-- What add is told: an engine, a machine, a node. -/
structure AddIn (w : World) (be bm nb : Nat) (vc vs vn x0 x1 x2 x3 x5 x6 x7 y0 y1 y2 y3 y4 y5 y6 y7 y8 y9 y10 y11 y12 : Value) (C S : List Int) (L : List Value) : Prop where
  eng : Blk w be #[x0, x1, x2, x3, ptrV bm, x5, x6, x7, vn] 95
  mach : Mach w bm vc vs ⟨C, S⟩
  node : Blk w nb #[y0, y1, y2, y3, y4, y5, y6, y7, y8, y9, y10, y11, y12] 102
  nodes : Own w 100 1 vn L.length L
  lenC : C.length ≤ 1073741824
  lenL : L.length < 1073741824
/-- The blocks that add turns. -/
def addF (be bm nb : Nat) (vc vs vn : Value) (k : Nat) : Prop := machF bm vc vs k ∨ k = nb ∨ k = be ∨ vn.ownBlock = some k
/-- What add leaves. -/
def AddP (w : World) (be bm nb : Nat) (vc vs vn x0 x1 x2 x3 x5 x6 x7 y0 y1 y5 y6 y7 y8 y9 y10 y11 y12 : Value) (C S : List Int) (L : List Value) (e : Ending) (w' : World) : Prop :=
  e = .returned (.int .i64 L.length) ∧ ∃ vc' vn', Blk w' be #[x0, x1, x2, x3, ptrV bm, x5, x6, x7, vn'] 95 ∧ Mach w' bm vc' vs ⟨C ++ [0, 0, 0], S⟩ ∧
    Blk w' nb #[y0, y1, .int .i64 C.length, .int .i64 (C.length + 1 : Nat), .int .i64 (C.length + 2 : Nat), y5, y6, y7, y8, y9, y10, y11, y12] 102 ∧ Own w' 100 1 vn' (L.length + 1) (L ++ [ptrV nb]) ∧
    Keeps (addF be bm nb vc vs vn) w w' ∧ (∀ k, machF bm vc' vs k → machF bm vc vs k ∨ w.heap.size ≤ k) ∧ (vn'.ownBlock = vn.ownBlock ∨ Fresh w.heap.size vn')

set_option maxRecDepth 100000 in
set_option maxHeartbeats 6400000 in
theorem he_add {w : World} {be bm nb : Nat} {vc vs vn x0 x1 x2 x3 x5 x6 x7 y0 y1 y2 y3 y4 y5 y6 y7 y8 y9 y10 y11 y12 : Value} {C S : List Int} {L : List Value} (h : AddIn w be bm nb vc vs vn x0 x1 x2 x3 x5 x6 x7 y0 y1 y2 y3 y4 y5 y6 y7 y8 y9 y10 y11 y12 C S L) :
    Calls Try.prog 52 #[.pointer (some ⟨be, 0, none⟩), .pointer (some ⟨nb, 0, none⟩)] w (AddP w be bm nb vc vs vn x0 x1 x2 x3 x5 x6 x7 y0 y1 y5 y6 y7 y8 y9 y10 y11 y12 C S L) := by
  obtain ⟨hE, hM, hN, hO, hC, hL⟩ := h
  have e4 : w.cell? ⟨be, 4, none⟩ = some (.pointer (some ⟨bm, 0, none⟩)) := hE.cell 4
  have nE := hM.notF hE (by decide) (by decide)
  have nN := hM.notF hN (by decide) (by decide)
  have nO := hM.notO hO (by decide) (by decide)
  have hM0 : Mach w.drew bm vc vs ⟨C, S⟩ := hM.drew
  have hEl := hE.lt
  have hNl := hN.lt
  have hOl := fun k hk => own_lt (k := k) hO hk
  have hnb : be ≠ nb := blk_ne hE hN (by decide)
  have hnoE := own_blk_ne hO hE (by decide)
  have hnoN := own_blk_ne hO hN (by decide)
  obtain ⟨ao, co, evo⟩ := own_shape hO
  have HE := Lib.hid hE
  have HN := Lib.hid hN
  have HO := Lib.hid hO
  have HV := Lib.hid evo
  have HNO := Lib.hid nO
  clear hE hN hO hM evo nO
  go_enter Try.func52, Try.ntmps52
  go_wp2_with fail
  refine start_ (n := 27) (S := fun w' => w'.cell? ⟨be, 4, none⟩ = some (.pointer (some ⟨bm, 0, none⟩))) (ds := [20, 23, 26]) #[false, false, false, false, false, false, false, false, false, false, false, false, false, false, false, false, false, false, false, false, false, false, false, false, false, false, false] (by kernel_rfl) rfl rfl (e4) (fun hHeld => ?_)
  refine pure_ (i := 0) (N := some 5) (v := ?_) (a' := ?_) #[true, false, false, false, false, false, false, false, false, false, false, false, false, false, false, false, false, false, false, false, false, false, false, false, false, false, false] rfl rfl (by kernel_rfl) (fun _ _ _ h => h) (Or.inl ⟨by rfl, ?_⟩) ?_ ?_
  rotate_left
  · intro w'
    go_simp
    with_reducible rfl
  rotate_left
  · simp only [Act.put, nA, nB, nC, i64_w, i32_w]
    rfl
  refine pure_ (i := 1) (N := some 6) (v := ?_) (a' := ?_) #[true, true, false, false, false, false, false, false, false, false, false, false, false, false, false, false, false, false, false, false, false, false, false, false, false, false, false] rfl rfl (by kernel_rfl) (fun _ _ _ h => h) (Or.inl ⟨by rfl, ?_⟩) ?_ ?_
  rotate_left
  · intro w'
    go_simp
    with_reducible rfl
  rotate_left
  · simp only [Act.put, nA, nB, nC, i64_w, i32_w]
    rfl
  refine pure_ (i := 2) (N := some 7) (v := ?_) (a' := ?_) #[true, true, true, false, false, false, false, false, false, false, false, false, false, false, false, false, false, false, false, false, false, false, false, false, false, false, false] rfl rfl (by kernel_rfl) (fun _ _ _ h => h) (Or.inl ⟨by rfl, ?_⟩) ?_ ?_
  rotate_left
  · intro w'
    go_simp
    with_reducible rfl
  rotate_left
  · simp only [Act.put, nA, nB, nC, i64_w, i32_w]
    rfl
  refine pure_ (i := 3) (N := some 8) (v := ?_) (a' := ?_) #[true, true, true, true, false, false, false, false, false, false, false, false, false, false, false, false, false, false, false, false, false, false, false, false, false, false, false] rfl rfl (by kernel_rfl) (fun _ _ _ h => h) (Or.inl ⟨by rfl, ?_⟩) ?_ ?_
  rotate_left
  · intro w'
    go_simp
    with_reducible rfl
  rotate_left
  · simp only [Act.put, nA, nB, nC, i64_w, i32_w]
    rfl
  refine pure_ (i := 4) (N := some 9) (v := ?_) (a' := ?_) #[true, true, true, true, true, false, false, false, false, false, false, false, false, false, false, false, false, false, false, false, false, false, false, false, false, false, false] rfl rfl (by kernel_rfl) (fun _ _ _ h => h) (Or.inl ⟨by rfl, ?_⟩) ?_ ?_
  rotate_left
  · intro w'
    go_simp
    with_reducible rfl
  rotate_left
  · simp only [Act.put, nA, nB, nC, i64_w, i32_w]
    rfl
  refine pure_ (i := 5) (N := some 10) (v := ?_) (a' := ?_) #[true, true, true, true, true, true, false, false, false, false, false, false, false, false, false, false, false, false, false, false, false, false, false, false, false, false, false] rfl rfl (by kernel_rfl) (fun _ _ _ h => h) (Or.inl ⟨by rfl, ?_⟩) ?_ ?_
  rotate_left
  · intro w'
    go_simp
    with_reducible rfl
  rotate_left
  · simp only [Act.put, nA, nB, nC, i64_w, i32_w]
    rfl
  refine pure_ (i := 8) (N := some 13) (v := ?_) (a' := ?_) #[true, true, true, true, true, true, false, false, true, false, false, false, false, false, false, false, false, false, false, false, false, false, false, false, false, false, false] rfl rfl (by kernel_rfl) (fun _ _ _ h => h) (Or.inl ⟨by rfl, ?_⟩) ?_ ?_
  rotate_left
  · intro w'
    go_simp
    with_reducible rfl
  rotate_left
  · simp only [Act.put, nA, nB, nC, i64_w, i32_w]
    rfl
  refine pure_ (i := 9) (N := some 14) (v := ?_) (a' := ?_) #[true, true, true, true, true, true, false, false, true, true, false, false, false, false, false, false, false, false, false, false, false, false, false, false, false, false, false] rfl rfl (by kernel_rfl) (fun _ _ _ h => h) (Or.inl ⟨by rfl, ?_⟩) ?_ ?_
  rotate_left
  · intro w'
    go_simp
    with_reducible rfl
  rotate_left
  · simp only [Act.put, nA, nB, nC, i64_w, i32_w]
    rfl
  refine pure_ (i := 10) (N := some 15) (v := ?_) (a' := ?_) #[true, true, true, true, true, true, false, false, true, true, true, false, false, false, false, false, false, false, false, false, false, false, false, false, false, false, false] rfl rfl (by kernel_rfl) (fun _ _ _ h => h) (Or.inl ⟨by rfl, ?_⟩) ?_ ?_
  rotate_left
  · intro w'
    go_simp
    with_reducible rfl
  rotate_left
  · simp only [Act.put, nA, nB, nC, i64_w, i32_w]
    rfl
  refine pure_ (i := 13) (N := some 18) (v := ?_) (a' := ?_) #[true, true, true, true, true, true, false, false, true, true, true, false, false, true, false, false, false, false, false, false, false, false, false, false, false, false, false] rfl rfl (by kernel_rfl) (fun _ _ _ h => h) (Or.inl ⟨by rfl, ?_⟩) ?_ ?_
  rotate_left
  · intro w'
    go_simp
    with_reducible rfl
  rotate_left
  · simp only [Act.put, nA, nB, nC, i64_w, i32_w]
    rfl
  refine pure_ (i := 14) (N := some 19) (v := ?_) (a' := ?_) #[true, true, true, true, true, true, false, false, true, true, true, false, false, true, true, false, false, false, false, false, false, false, false, false, false, false, false] rfl rfl (by kernel_rfl) (fun _ _ _ h => h) (Or.inl ⟨by rfl, ?_⟩) ?_ ?_
  rotate_left
  · intro w'
    go_simp
    with_reducible rfl
  rotate_left
  · simp only [Act.put, nA, nB, nC, i64_w, i32_w]
    rfl
  refine pure_ (i := 15) (N := some 20) (v := ?_) (a' := ?_) #[true, true, true, true, true, true, false, false, true, true, true, false, false, true, true, true, false, false, false, false, false, false, false, false, false, false, false] rfl rfl (by kernel_rfl) (fun _ _ _ h => h) (Or.inl ⟨by rfl, ?_⟩) ?_ ?_
  rotate_left
  · intro w'
    go_simp
    with_reducible rfl
  rotate_left
  · simp only [Act.put, nA, nB, nC, i64_w, i32_w]
    rfl
  refine take_ (i := 6) (N := some 11) (v := ?_) (a' := ?_) #[true, true, true, true, true, true, true, false, true, true, true, false, false, true, true, true, false, false, false, false, false, false, false, false, false, false, false] rfl rfl (by kernel_rfl) (fun _ _ _ h => h) (Or.inl ⟨by rfl, ?_⟩) hHeld ?_ ?_
  rotate_left
  · intro w' s0
    go_simp
    with_reducible rfl
  rotate_left
  · simp only [Act.put, nA, nB, nC, i64_w, i32_w]
    rfl
  refine take_ (i := 11) (N := some 16) (v := ?_) (a' := ?_) #[true, true, true, true, true, true, true, false, true, true, true, true, false, true, true, true, false, false, false, false, false, false, false, false, false, false, false] rfl rfl (by kernel_rfl) (fun _ _ _ h => h) (Or.inl ⟨by rfl, ?_⟩) hHeld ?_ ?_
  rotate_left
  · intro w' s0
    go_simp
    with_reducible rfl
  rotate_left
  · simp only [Act.put, nA, nB, nC, i64_w, i32_w]
    rfl
  refine take_ (i := 16) (N := some 21) (v := ?_) (a' := ?_) #[true, true, true, true, true, true, true, false, true, true, true, true, false, true, true, true, true, false, false, false, false, false, false, false, false, false, false] rfl rfl (by kernel_rfl) (fun _ _ _ h => h) (Or.inl ⟨by rfl, ?_⟩) hHeld ?_ ?_
  rotate_left
  · intro w' s0
    go_simp
    with_reducible rfl
  rotate_left
  · simp only [Act.put, nA, nB, nC, i64_w, i32_w]
    rfl
  refine one_ (i := 7) (N := some 12) #[true, true, true, true, true, true, true, true, true, true, true, true, false, true, true, true, true, false, false, false, false, false, false, false, false, false, false] rfl rfl (by kernel_rfl) (by decide) (fun K hK => ?_)
  refine goes_ Try.func39 (by kernel_rfl) rfl #[.pointer (some ⟨bm, 0, none⟩), .int .i64 1] (by rfl) rfl rfl (by simp only [List.map_toArray, List.map_cons, List.map_nil]; rfl) ?_
  with_reducible refine ((mach_cell1 hM0 (by first | omega | (simp only [List.length_append, List.length_cons, List.length_nil]; omega)))).mono ?_
  rintro e w1 ⟨rfl, vc1, hM1, hK1, hG1⟩
  refine ⟨_, rfl, ?_⟩
  have hE1 : Blk w1 be _ _ := HE.out.drew.keeps hK1 nE
  have hN1 : Blk w1 nb _ _ := HN.out.drew.keeps hK1 nN
  have hO1 := own_keeps (own_drew HO.out) hK1 HNO.out
  have c1 : w1.cell? ⟨be, 4, none⟩ = some (.pointer (some ⟨bm, 0, none⟩)) := hE1.cell 4
  try clear hHeld
  refine hK.out _ _ (c1) (fun hHeld => ?_)
  clear hK K
  refine norm_ (a' := ?_) ?_ ?_
  rotate_left
  · show Act.put _ (some 12) _ = _
    simp only [Act.put, nA, nB, nC, i64_w, i32_w]
    rfl
  refine one_ (i := 12) (N := some 17) #[true, true, true, true, true, true, true, true, true, true, true, true, true, true, true, true, true, false, false, false, false, false, false, false, false, false, false] rfl rfl (by kernel_rfl) (by decide) (fun K hK => ?_)
  refine goes_ Try.func39 (by kernel_rfl) rfl #[.pointer (some ⟨bm, 0, none⟩), .int .i64 1] (by rfl) rfl rfl (by simp only [List.map_toArray, List.map_cons, List.map_nil]; rfl) ?_
  with_reducible refine ((mach_cell1 hM1 (by first | omega | (simp only [List.length_append, List.length_cons, List.length_nil]; omega)))).mono ?_
  rintro e w2 ⟨rfl, vc2, hM2, hK2, hG2⟩
  refine ⟨_, rfl, ?_⟩
  have hE2 : Blk w2 be _ _ := hE1.keeps hK2 (hM1.notF hE1 (by decide) (by decide))
  have hN2 : Blk w2 nb _ _ := hN1.keeps hK2 (hM1.notF hN1 (by decide) (by decide))
  have hO2 := own_keeps hO1 hK2 (hM1.notO hO1 (by decide) (by decide))
  have c2 : w2.cell? ⟨be, 4, none⟩ = some (.pointer (some ⟨bm, 0, none⟩)) := hE2.cell 4
  try clear hHeld
  refine hK.out _ _ (c2) (fun hHeld => ?_)
  clear hK K
  refine norm_ (a' := ?_) ?_ ?_
  rotate_left
  · show Act.put _ (some 17) _ = _
    simp only [Act.put, nA, nB, nC, i64_w, i32_w]
    rfl
  refine one_ (i := 17) (N := some 22) #[true, true, true, true, true, true, true, true, true, true, true, true, true, true, true, true, true, true, false, false, false, false, false, false, false, false, false] rfl rfl (by kernel_rfl) (by decide) (fun K hK => ?_)
  refine goes_ Try.func39 (by kernel_rfl) rfl #[.pointer (some ⟨bm, 0, none⟩), .int .i64 1] (by rfl) rfl rfl (by simp only [List.map_toArray, List.map_cons, List.map_nil]; rfl) ?_
  with_reducible refine ((mach_cell1 hM2 (by first | omega | (simp only [List.length_append, List.length_cons, List.length_nil]; omega)))).mono ?_
  rintro e w3 ⟨rfl, vc3, hM3, hK3, hG3⟩
  refine ⟨_, rfl, ?_⟩
  have hE3 : Blk w3 be _ _ := hE2.keeps hK3 (hM2.notF hE2 (by decide) (by decide))
  have hN3 : Blk w3 nb _ _ := hN2.keeps hK3 (hM2.notF hN2 (by decide) (by decide))
  have hO3 := own_keeps hO2 hK3 (hM2.notO hO2 (by decide) (by decide))
  have c3 : w3.cell? ⟨be, 4, none⟩ = some (.pointer (some ⟨bm, 0, none⟩)) := hE3.cell 4
  have t2 := hN3.cell 2
  have t3 := hN3.cell 3
  have t4 := hN3.cell 4
  have f2 := hN3.frozen 2
  have f3 := hN3.frozen 3
  have f4 := hN3.frozen 4
  simp at t2 t3 t4
  try clear hHeld
  refine hK.out _ _ (c3) (fun hHeld => ?_)
  clear hK K
  refine norm_ (a' := ?_) ?_ ?_
  rotate_left
  · show Act.put _ (some 22) _ = _
    simp only [Act.put, nA, nB, nC, i64_w, i32_w]
    rfl
  refine pure_ (i := 18) (N := some 23) (v := ?_) (a' := ?_) #[true, true, true, true, true, true, true, true, true, true, true, true, true, true, true, true, true, true, true, false, false, false, false, false, false, false, false] rfl rfl (by kernel_rfl) (fun _ _ _ h => h) (Or.inl ⟨by rfl, ?_⟩) ?_ ?_
  rotate_left
  · intro w'
    go_simp
    with_reducible rfl
  rotate_left
  · simp only [Act.put, nA, nB, nC, i64_w, i32_w]
    rfl
  refine pure_ (i := 19) (N := some 24) (v := ?_) (a' := ?_) #[true, true, true, true, true, true, true, true, true, true, true, true, true, true, true, true, true, true, true, true, false, false, false, false, false, false, false] rfl rfl (by kernel_rfl) (fun _ _ _ h => h) (Or.inl ⟨by rfl, ?_⟩) ?_ ?_
  rotate_left
  · intro w'
    go_simp
    with_reducible rfl
  rotate_left
  · simp only [Act.put, nA, nB, nC, i64_w, i32_w]
    rfl
  refine last_ (i := 20) (N := none) #[true, true, true, true, true, true, true, true, true, true, true, true, true, true, true, true, true, true, true, true, true, false, false, false, false, false, false] rfl rfl (by kernel_rfl) (by decide) (fun K hK => ?_)
  refine skip_ (w1 := ?_) (by rfl) rfl ?_ ?_
  rotate_left
  · go_simp
    rfl
  try clear hHeld
  refine hK.out _ _ ?_
  clear hK K
  refine pure_ (i := 21) (N := some 25) (v := ?_) (a' := ?_) #[true, true, true, true, true, true, true, true, true, true, true, true, true, true, true, true, true, true, true, true, true, true, false, false, false, false, false] rfl rfl (by kernel_rfl) (fun _ _ _ h => h) (Or.inl ⟨by rfl, ?_⟩) ?_ ?_
  rotate_left
  · intro w'
    go_simp
    with_reducible rfl
  rotate_left
  · simp only [Act.put, nA, nB, nC, i64_w, i32_w]
    rfl
  refine pure_ (i := 22) (N := some 26) (v := ?_) (a' := ?_) #[true, true, true, true, true, true, true, true, true, true, true, true, true, true, true, true, true, true, true, true, true, true, true, false, false, false, false] rfl rfl (by kernel_rfl) (fun _ _ _ h => h) (Or.inl ⟨by rfl, ?_⟩) ?_ ?_
  rotate_left
  · intro w'
    go_simp
    with_reducible rfl
  rotate_left
  · simp only [Act.put, nA, nB, nC, i64_w, i32_w]
    rfl
  refine last_ (i := 23) (N := none) #[true, true, true, true, true, true, true, true, true, true, true, true, true, true, true, true, true, true, true, true, true, true, true, true, false, false, false] rfl rfl (by kernel_rfl) (by decide) (fun K hK => ?_)
  refine skip_ (w1 := ?_) (by rfl) rfl ?_ ?_
  rotate_left
  · go_simp
    rfl
  try clear hHeld
  refine hK.out _ _ ?_
  clear hK K
  refine pure_ (i := 24) (N := some 27) (v := ?_) (a' := ?_) #[true, true, true, true, true, true, true, true, true, true, true, true, true, true, true, true, true, true, true, true, true, true, true, true, true, false, false] rfl rfl (by kernel_rfl) (fun _ _ _ h => h) (Or.inl ⟨by rfl, ?_⟩) ?_ ?_
  rotate_left
  · intro w'
    go_simp
    with_reducible rfl
  rotate_left
  · simp only [Act.put, nA, nB, nC, i64_w, i32_w]
    rfl
  refine pure_ (i := 25) (N := some 28) (v := ?_) (a' := ?_) #[true, true, true, true, true, true, true, true, true, true, true, true, true, true, true, true, true, true, true, true, true, true, true, true, true, true, false] rfl rfl (by kernel_rfl) (fun _ _ _ h => h) (Or.inl ⟨by rfl, ?_⟩) ?_ ?_
  rotate_left
  · intro w'
    go_simp
    with_reducible rfl
  rotate_left
  · simp only [Act.put, nA, nB, nC, i64_w, i32_w]
    rfl
  refine last_ (i := 26) (N := none) #[true, true, true, true, true, true, true, true, true, true, true, true, true, true, true, true, true, true, true, true, true, true, true, true, true, true, true] rfl rfl (by kernel_rfl) (by decide) (fun K hK => ?_)
  refine skip_ (w1 := ?_) (by rfl) rfl ?_ ?_
  rotate_left
  · go_simp
    rfl
  try clear hHeld
  refine hK.out _ _ ?_
  clear hK K
  try clear hHeld
  refine done_ (by kernel_rfl) ?_
  have hM4 := ((hM3.other (a := ⟨nb, 2, none⟩) (hM3.notF hN3 (by decide) (by decide)) (.int .i64 C.length)).other (a := ⟨nb, 3, none⟩) (hM3.notF hN3 (by decide) (by decide)) (.int .i64 ((C.length : Int) + 1))).other (a := ⟨nb, 4, none⟩) (hM3.notF hN3 (by decide) (by decide)) (.int .i64 ((C.length : Int) + 2))
  have hE4 := ((hE3.other (a := ⟨nb, 2, none⟩) hnb (.int .i64 C.length)).other (a := ⟨nb, 3, none⟩) hnb (.int .i64 ((C.length : Int) + 1))).other (a := ⟨nb, 4, none⟩) hnb (.int .i64 ((C.length : Int) + 2))
  have hN4 := ((hN3.set 2 (.int .i64 C.length)).set 3 (.int .i64 ((C.length : Int) + 1))).set 4 (.int .i64 ((C.length : Int) + 2))
  have K34 : Keeps (fun k => k = nb) w3 _ := (((Keeps.refl (fun k => k = nb) w3).set nb 2 (.inl rfl) (.int .i64 C.length)).set nb 3 (.inl rfl) (.int .i64 ((C.length : Int) + 1))).set nb 4 (.inl rfl) (.int .i64 ((C.length : Int) + 2))
  have hO4 := own_keeps hO3 K34 (fun k hk e => own_blk_ne hO3 hN3 (by decide) (by rw [← e]; exact hk))
  have HK34 := Lib.hid K34
  have HK1 := Lib.hid hK1
  have HK2 := Lib.hid hK2
  have HK3 := Lib.hid hK3
  have HG1 := Lib.hid hG1
  have HG2 := Lib.hid hG2
  have HG3 := Lib.hid hG3
  have HM4 := Lib.hid hM4
  have HN4 := Lib.hid hN4
  have HO4 := Lib.hid hO4
  clear hM0 e4 hM1 hM2 hM3 hE1 hE2 hE3 hN1 hN2 hN3 hO1 hO2 hO3 c1 c2 c3 t2 t3 t4 f2 f3 f4 hM4 hN4 hO4 K34 hK1 hK2 hK3 hG1 hG2 hG3
  generalize ((w3.setCell ⟨nb, 2, none⟩ (.int .i64 C.length)).setCell ⟨nb, 3, none⟩ (.int .i64 ((C.length : Int) + 1))).setCell ⟨nb, 4, none⟩ (.int .i64 ((C.length : Int) + 2)) = w4 at *
  have e8 : w4.cell? ⟨be, 8, none⟩ = some vn := hE4.cell 8
  rw [HV.out] at e8
  have HE4 := Lib.hid hE4
  clear hE4
  obtain ⟨i0, hi, hz0, hz1, hz2⟩ := info_parts infoNP
  have HNEW := Lib.hid (cell_one_new w4 (.pointer (some ⟨nb, 0, none⟩)) 100)
  have i64l : IntKind.i64.wrap ((((L.length + 1 : Nat)) : Int) - 1) = (L.length : Int) := by rw [IntWalk.i64_in _ (by omega)]; omega
  have i64m : IntKind.i64.wrap ((L.length : Int) + 1 - 1) = (L.length : Int) := by rw [IntWalk.i64_in _ (by omega)]; omega
  go_wp2_with (at_builtin; refine wpList_append_own_at _ rfl _ _ 93 rfl 0 100 i0 (.pointer none) 1 8 Try.underlying93 hi hz0 hz1 hz2 rfl (by decide) (.slice ao L.length co) _ _ rfl (by rw [← HV.out]; exact HO4.out.alloc _) ⟨w4.heap.size, 0, none⟩ 1 1 [.pointer (some ⟨nb, 0, none⟩)] rfl (by simp) HNEW.out (by intro u hu; simp at hu; subst hu; rfl) (by simp only [maxLen]; omega) (by omega) (Nat.zero_le _) ?_; intro v' w5 hown hgrow hnil hat; obtain ⟨a1, c1, rfl⟩ := own_shape hown; have hE5 := (HE4.out.alloc (.cells #[.pointer (some ⟨nb, 0, none⟩)] 100)).keeps ((Keeps.refl (fun q => (Value.slice ao L.length co).ownBlock = some q) _).grown hgrow (fun q e => .inl e)) (fun e => own_blk_ne HO4.out HE4.out (by decide) (by rw [HV.out]; exact e)); have c8 := hE5.cell 8; simp only [HV.out] at c8; have fz8 := hE5.frozen 8; have HE5 := Lib.hid hE5; have HOWN := Lib.hid hown; have HGROW := Lib.hid hgrow; have HAT := Lib.hid hat; clear hown hgrow hat hnil hE5 e8)
  go_ret
  have hE6 := HE5.out.set 8 (.slice a1 (L.length + 1) c1)
  have hNa := HN4.out.alloc (.cells #[.pointer (some ⟨nb, 0, none⟩)] 100)
  have hMa := HM4.out.alloc (.cells #[.pointer (some ⟨nb, 0, none⟩)] 100)
  have hOa := own_keeps HO4.out ((Keeps.refl (fun _ => False) w4).alloc (.cells #[.pointer (some ⟨nb, 0, none⟩)] 100)) (fun _ _ h => h)
  have hg := HGROW.out
  rw [← HV.out] at hg
  have hK5 : Keeps (fun q => vn.ownBlock = some q) w4 w5 := ((Keeps.refl _ w4).alloc _).grown hg (fun q e => .inl e)
  have kk : Keeps (fun q => vn.ownBlock = some q) (w4.alloc (.cells #[.pointer (some ⟨nb, 0, none⟩)] 100)) w5 := (Keeps.refl _ _).grown hg (fun q e => .inl e)
  have hN5 := hNa.keeps kk (own_blk_ne HO4.out HN4.out (by decide))
  have hM5 := hMa.keeps kk (fun q hq e => hMa.notO hOa (by decide) (by decide) q e hq)
  have hM6 := hM5.other (a := ⟨be, 8, none⟩) (hM5.notF HE5.out (by decide) (by decide)) (.slice a1 (L.length + 1) c1)
  have hN6 := hN5.other (a := ⟨be, 8, none⟩) hnb.symm (.slice a1 (L.length + 1) c1)
  have hO6 := own_set HOWN.out HE5.out (by decide) 8 (.slice a1 (L.length + 1) c1)
  have kA : Keeps (addF be bm nb vc vs vn) w w1 := ((Keeps.refl (machF bm vc vs) w).drew.trans' HK1.out).mono fun q h => .inl h
  have s1 := kA.size
  have g1 : ∀ q, machF bm vc1 vs q → machF bm vc vs q ∨ w.heap.size ≤ q := HG1.out
  have g2 : ∀ q, machF bm vc2 vs q → machF bm vc vs q ∨ w.heap.size ≤ q := fun q h => (HG2.out q h).elim (g1 q) (fun h => .inr (Nat.le_trans s1 h))
  have kB : Keeps (addF be bm nb vc vs vn) w w2 := kA.trans HK2.out fun q h => (g1 q h).imp .inl id
  have kC : Keeps (addF be bm nb vc vs vn) w w3 := kB.trans HK3.out fun q h => (g2 q h).imp .inl id
  have kD : Keeps (addF be bm nb vc vs vn) w w5 := (kC.trans' (HK34.out.mono fun q h => .inr (.inl h))).trans' (hK5.mono fun q h => .inr (.inr (.inr h)))
  refine ⟨rfl, vc3, .slice a1 (L.length + 1) c1, by simpa using hE6, by simpa using hM6, by simpa using hN6, by simpa using hO6, kD.set be 8 (.inl (.inr (.inr (.inl rfl)))) _, fun k hk => ?_, ?_⟩
  · exact (HG3.out k hk).elim (g2 k) (fun h => .inr (Nat.le_trans kB.size h))
  · rcases HAT.out with e | e
    · left; rw [e, HV.out]
    · right
      intro k hk
      rw [e] at hk
      injection hk with hk
      have := kC.size
      have := HK34.out.size
      simp at hk
      omega
end Go.Proofs.Ytjfenjnnpikkdaa
/- Package herlihy: one node more, in memory. -/
namespace Go.Proofs.Ytjfenjnnpikkdaa
set_option maxRecDepth 100000
open Go.RowKit

section
variable {w w' : World} {base be n p : Nat} {R : HRef} {s : St} {H : HS}
theorem nd_app {H : HS} {v : HNode} {ch : List Nat} {an he : Nat → Nat} {ps : Nat → HProc} (i : Nat) : (⟨H.nodes ++ [v], ch, an, he, ps⟩ : HS).nd i = if i = H.nodes.length then v else H.nd i := by
  simp only [HS.nd, List.getD_eq_getElem?_getD]
  by_cases e : i = H.nodes.length
  · subst e; simp
  · rw [if_neg e]
    by_cases h : i < H.nodes.length
    · rw [List.getElem?_append_left h]
    · rw [List.getElem?_eq_none (by simp; omega), List.getElem?_eq_none (by omega)]
theorem cellsH_app (n : Nat) (H : HS) (v : HNode) (ps : Nat → HProc) (hc : ∀ i ∈ H.chain, i < H.nodes.length) (hp : v.place = 0) (hd : v.done = false) :
    cellsH n ⟨H.nodes ++ [v], H.chain, H.ann, H.head, ps⟩ = cellsH n H ++ [0, 0, 0] := by
  have hlen : (⟨H.nodes ++ [v], H.chain, H.ann, H.head, ps⟩ : HS).nodes.length = H.nodes.length + 1 := by simp
  have hnx : nextOf H.chain H.nodes.length = 0 := nextOf_out _ _ (fun h => by have := hc _ h; omega)
  have hold : ∀ c, c < 2 * n + 3 * H.nodes.length → cval n ⟨H.nodes ++ [v], H.chain, H.ann, H.head, ps⟩ c = cval n H c := by
    intro c hcl
    unfold cval
    have e : 2 * n ≤ c → (⟨H.nodes ++ [v], H.chain, H.ann, H.head, ps⟩ : HS).nd ((c - 2 * n) / 3) = H.nd ((c - 2 * n) / 3) := fun h => by rw [nd_app, if_neg (by omega)]
    by_cases h1 : c < n
    · rw [if_pos h1, if_pos h1]
    · rw [if_neg h1, if_neg h1]
      by_cases h2 : c < 2 * n
      · rw [if_pos h2, if_pos h2]
      · rw [if_neg h2, if_neg h2, e (by omega)]
  have hnew : (⟨H.nodes ++ [v], H.chain, H.ann, H.head, ps⟩ : HS).nd H.nodes.length = v := by rw [nd_app, if_pos rfl]
  have h0 := cval_place (n := n) (H := ⟨H.nodes ++ [v], H.chain, H.ann, H.head, ps⟩) H.nodes.length
  have h1 := cval_next (n := n) (H := ⟨H.nodes ++ [v], H.chain, H.ann, H.head, ps⟩) H.nodes.length
  have h2 := cval_done (n := n) (H := ⟨H.nodes ++ [v], H.chain, H.ann, H.head, ps⟩) H.nodes.length
  rw [hnew] at h0 h2
  rw [hp] at h0
  rw [hd] at h2
  rw [hnx] at h1
  unfold cellsH
  rw [hlen, show 2 * n + 3 * (H.nodes.length + 1) = 2 * n + 3 * H.nodes.length + 3 by omega, List.range_add, List.map_append]
  congr 1
  · apply List.map_congr_left
    intro c hcc
    exact hold c (List.mem_range.1 hcc)
  · show List.map _ (List.map _ [0, 1, 2]) = _
    simp only [List.map_cons, List.map_nil, ncell] at h0 h1 h2 ⊢
    simp only [Nat.add_zero]
    rw [h0, h1, h2]
    rfl
/-- The blocks that are turned as a node is added for process p. -/
def askFH (R : HRef) (be p : Nat) (k : Nat) : Prop := hturnF R p k ∨ k = be ∨ R.vn.ownBlock = some k
open Classical in
theorem HRep.addFin (h : HRep w base be R n s H) (hp : p < n) (hc : ∀ i ∈ H.chain, i < H.nodes.length) (k : Keeps (askFH R be p) w w') {x : HProc} {bf : Int} {vc' vn' : Value} {nb : Nat} {steps : List Int} {v : HNode} {vl : Value}
    (hB : Blk w' (R.pa p) (hprocV be p x bf (hphV (R.pa p) x.ph)) 98) (hE : Blk w' be (hengV s { R with vn := vn' } n) 95) (hM : Mach w' R.bm vc' R.vs ⟨cellsH n H ++ [0, 0, 0], steps⟩)
    (hO : Own w' 100 1 vn' (H.nodes.length + 1) ((List.range H.nodes.length).map (fun i => ptrV (R.na i)) ++ [ptrV nb])) (hnb : w.heap.size ≤ nb)
    (hN : Blk w' nb (hnodeV n H.nodes.length v vl) 102) (hv1 : v.place = 0) (hv2 : v.done = false) (hrd : Rd w' vl v.st.L) (hvl : 0 < v.st.L.length → ∀ k, vl.ownBlock = some k → k < base)
    (hvc : ∀ k, machF R.bm vc' R.vs k → machF R.bm R.vc R.vs k ∨ w.heap.size ≤ k) (hvn : vn'.ownBlock = R.vn.ownBlock ∨ Fresh w.heap.size vn') (val : Value) :
    HPost w base be R n s ⟨H.nodes ++ [v], H.chain, H.ann, H.head, upd H.procs p x⟩ val (.returned val) w' := by
  have hx := h.proc p hp
  have hT : ∀ k, askFH R be p k → R.own k = some .mach ∨ R.own k = some (.proc p) ∨ R.own k = some .eng := by
    rintro k ((hk | rfl) | rfl | hk)
    · exact .inl (h.machT k hk)
    · exact .inr (.inl hx.tag)
    · exact .inr (.inr h.engT)
    · exact .inr (.inr (h.nodesT k hk))
  have hlt : ∀ {t : HTag} {k}, R.own k = some t → k < w.heap.size := fun hk => (h.fresh _ (by rw [hk]; simp)).2
  have hge : ∀ {t : HTag} {k}, R.own k = some t → base ≤ k := fun hk => (h.fresh _ (by rw [hk]; simp)).1
  have hbw : base ≤ w.heap.size := by have := hge h.engT; have := hlt h.engT; omega
  generalize hown : (fun q => if q < w.heap.size then R.own q else if machF R.bm vc' R.vs q then some HTag.mach else if q = nb then some HTag.node else if vn'.ownBlock = some q then some HTag.eng else none) = own'
  have ho : ∀ q, q < w.heap.size → own' q = R.own q := fun q hq => by subst hown; simp only; rw [if_pos hq]
  have hold : ∀ {t : HTag} {k}, R.own k = some t → own' k = some t := fun hk => (ho _ (hlt hk)).trans hk
  have hnew : ∀ q, w.heap.size ≤ q → own' q ≠ none → q < w'.heap.size := fun q h1 h2 => by
    subst hown; simp only at h2; rw [if_neg (by omega)] at h2
    by_cases c : machF R.bm vc' R.vs q
    · exact hM.lt c
    · rw [if_neg c] at h2
      by_cases c2 : q = nb
      · subst c2; exact hN.lt
      · rw [if_neg c2] at h2
        by_cases c3 : vn'.ownBlock = some q
        · exact own_lt hO c3
        · rw [if_neg c3] at h2; simp at h2
  have hs : ∀ {t : HTag} {k}, t ≠ .mach → t ≠ .proc p → t ≠ .eng → R.own k = some t → ¬ askFH R be p k := fun h1 h2 h3 hk hf => by
    rcases hT _ hf with e | e | e <;> rw [hk] at e <;> injection e with e
    · exact h1 e
    · exact h2 e
    · exact h3 e
  have nP : ∀ k, R.vp.ownBlock = some k → ¬ askFH R be p k := fun q hq hf => by
    rcases hf with (hf | hf) | hf | hf
    · have := h.machT q hf; rw [h.procsT q hq] at this; simp at this
    · subst hf; exact own_blk_ne h.procs hx.blk (by decide) hq
    · subst hf; exact own_blk_ne h.procs h.eng (by decide) hq
    · exact own_type_ne h.procs h.nodes (by decide) hq hf
  have hTn : own' nb = some .node := by
    subst hown; simp only
    rw [if_neg (by omega), if_neg (hM.notF hN (by decide) (by decide)), if_pos trivial]
  have hlen : (⟨H.nodes ++ [v], H.chain, H.ann, H.head, upd H.procs p x⟩ : HS).nodes.length = H.nodes.length + 1 := by simp
  refine ⟨rfl, { R with vc := vc', vn := vn', steps := steps, bef := upd R.bef p bf, na := upd R.na H.nodes.length nb, own := own' }, ⟨h.small, fun q hq => ?_, hE, hold h.engT, rd_keeps h.start k ?_, fun h0 q hq => (h.startT h0 q hq).imp hold id, by rw [cellsH_app n H v _ hc hv1 hv2]; exact hM, fun q hq => ?_, own_keeps h.procs k nP, fun q hq => hold (h.procsT q hq), fun q hq => ?_, ?_, fun q hq => ?_, fun i hi => ?_, fun i j hi hj e => ?_⟩, ho, k.mono fun j hj => ?_⟩
  · by_cases c : q < w.heap.size
    · have := h.fresh q (by rw [← ho q c]; exact hq)
      have := k.size
      omega
    · exact ⟨by omega, hnew q (by omega) hq⟩
  · intro h0 q hq hf
    rcases h.startT h0 q hq with g | g
    · exact hs (by simp) (by simp) (by simp) g hf
    · rcases hT q hf with e | e | e <;> have := hge e <;> omega
  · rcases hvc q hq with e | e
    · exact hold (h.machT q e)
    · subst hown; simp only
      rw [if_neg (by omega), if_pos hq]
  · by_cases e : q = p
    · subst e
      refine ⟨hold hx.tag, ?_⟩
      simp only [upd_same]
      exact hB
    · have hxq := h.proc q hq
      refine ⟨hold hxq.tag, ?_⟩
      simp only [upd_ne _ _ e]
      exact hxq.blk.keeps k (hs (by simp) (by simp; exact e) (by simp) hxq.tag)
  · show Own w' _ 1 vn' (H.nodes ++ [v]).length ((List.range (H.nodes ++ [v]).length).map fun i => ptrV (upd R.na H.nodes.length nb i))
    rw [List.length_append, List.length_singleton, List.range_succ, List.map_append]
    have e1 : (List.range H.nodes.length).map (fun i => ptrV (upd R.na H.nodes.length nb i)) = (List.range H.nodes.length).map fun i => ptrV (R.na i) := by
      apply List.map_congr_left
      intro i hi
      rw [upd_ne _ _ (by have := List.mem_range.1 hi; omega)]
    rw [e1]
    simpa [upd_same] using hO
  · rcases hvn with e | e
    · exact hold (h.nodesT q (e ▸ hq))
    · have h1 := e q hq
      subst hown
      simp only
      rw [if_neg (by omega), if_neg (fun hf => hM.notO hO (by decide) (by decide) q hq hf), if_neg (fun e => own_blk_ne hO hN (by decide) (by rw [← e]; exact hq)), if_pos hq]
  · have hi' : i < H.nodes.length + 1 := by simpa using hi
    rw [nd_app]
    by_cases e : i = H.nodes.length
    · subst e
      rw [if_pos rfl]
      simp only [upd_same]
      exact ⟨hTn, vl, hN, hrd, fun h0 k hk => .inr (hvl h0 k hk)⟩
    · rw [if_neg e]
      simp only [upd_ne _ _ e]
      have hni := h.node i (by omega)
      refine hni.keeps k (hs (by simp) (by simp) (by simp) hni.1) (fun j hj => ?_) (fun _ _ e => hold e)
      rcases hT j hj with e | e | e <;> exact ⟨by rw [e]; simp, hge e⟩
  · have hi' : i < H.nodes.length + 1 := by simpa using hi
    have hj' : j < H.nodes.length + 1 := by simpa using hj
    have hb : ∀ i, i < H.nodes.length → R.na i < nb := fun i hi => by have := hlt (h.node i hi).1; omega
    simp only at e
    by_cases c1 : i = H.nodes.length
    · by_cases c2 : j = H.nodes.length
      · omega
      · rw [c1, upd_same, upd_ne _ _ c2] at e
        have := hb j (by omega); omega
    · by_cases c2 : j = H.nodes.length
      · rw [c2, upd_same, upd_ne _ _ c1] at e
        have := hb i (by omega); omega
      · rw [upd_ne _ _ c1, upd_ne _ _ c2] at e
        exact h.inj i j (by omega) (by omega) e
  · rcases hT j hj with e | e | e <;> rw [e] <;> simp
end
end Go.Proofs.Ytjfenjnnpikkdaa
/- Package herlihy: Invoke, of one that has nothing to do. -/
namespace Go.Proofs.Ytjfenjnnpikkdaa
set_option maxRecDepth 100000
open Go.RowKit
open Go.Proofs.YtjfenjnnpikkdaaW.PrintLast

set_option maxRecDepth 100000 in
set_option maxHeartbeats 6400000 in
theorem he_invoke_ok {w : World} {base be n p : Nat} {R : HRef} {s : St} {H : HS} (h : HRep w base be R n s H) (hp : p < n) (hc : ∀ i ∈ H.chain, i < H.nodes.length) (o : Op3) (hfo : fitsB o = true) (hph : (H.procs p).ph = .idle) (hal : H.nodes.length ≤ 100000000) (hmy : (H.procs p).many ≤ 100000000) :
    Calls Try.prog 33 #[.pointer (some ⟨be, 0, none⟩), .int .i64 p, .agg #[.int .i64 o.code, .int .i64 o.a, .int .i64 o.b]] w (HPost w base be R n s (H.invoke p o) (.int .i64 0)) := by
  have hb1 : Below w.heap.size w (w.alloc (.cells #[.int .i64 o.code, .int .i64 o.a, .int .i64 o.b] 37)) := (Below.refl _ _).alloc (Nat.le_refl _) _
  have h1 := h.keeps (F := fun _ => False) (Keeps.ofBelow hb1) (by simp)
  have hF := he_find h1 (p : Int)
  rw [if_pos (by omega), Int.toNat_natCast] at hF
  have hfit := fun W => o_fits (w := W) o
  rw [hfo] at hfit
  have HFT := fun W => Lib.hid (hfit W)
  have hO1 := Blk.new w #[.int .i64 o.code, .int .i64 o.a, .int .i64 o.b] 37
  obtain ⟨ta, tb, tv, hty⟩ := stepFn
  have heq := fun (w : World) => run_neq_nils w _ hty
  have HF := Lib.hid hF
  have HB1 := Lib.hid hb1
  have HC := Lib.hid hc
  have HBW := Lib.hid (by simp : w.heap.size ≤ (w.alloc (.cells #[.int .i64 o.code, .int .i64 o.a, .int .i64 o.b] 37)).heap.size)
  have hltp := (h.proc p hp).blk.lt
  have hlte := h.eng.lt
  clear hF hfit hb1 hty h hc
  have hx1 := h1.proc p hp
  have p5 := hx1.blk.cell 5
  rw [hph] at p5
  simp only [hphV] at p5
  go_enter Try.func33, Try.ntmps33
  go_wp2_with fail
  generalize w.alloc (.cells #[.int .i64 o.code, .int .i64 o.a, .int .i64 o.b] 37) = w1 at *
  generalize hob : w.heap.size = ob at *
  have HOB := Lib.hid hob
  clear hob
  refine HF.out.mono ?_
  rintro e w1 ⟨rfl, rfl⟩
  have o0 : w1.cell? ⟨ob, 0, none⟩ = some (.int .i64 o.code) := hO1.cell 0
  have o1 : w1.cell? ⟨ob, 1, none⟩ = some (.int .i64 o.a) := hO1.cell 1
  have o2 : w1.cell? ⟨ob, 2, none⟩ = some (.int .i64 o.b) := hO1.cell 2
  go_wp2_with fail
  refine (HFT _).out.mono ?_
  rintro e w2 ⟨rfl, hb2⟩
  have h2 := h1.keeps (F := fun _ => False) (Keeps.ofBelow hb2) (by simp)
  have hO2 := hO1.below hb2 hO1.lt
  have hx2 := h2.proc p hp
  have HB2 := Lib.hid hb2
  have c5 : w2.cell? ⟨R.pa p, 5, none⟩ = some (hphV (R.pa p) (H.procs p).ph) := hx2.blk.cell 5
  rw [hph] at c5
  simp only [hphV] at c5
  have c3 : w2.cell? ⟨R.pa p, 3, none⟩ = some (.int .i64 (H.procs p).many) := hx2.blk.cell 3
  have f3 := hx2.blk.frozen 3
  have c4 := hx2.blk.cell 4
  have f4 := hx2.blk.frozen 4
  simp at c4
  have hB3 := hx2.blk.set 3 (.int .i64 (((H.procs p).many : Int) + 1))
  have e4 : w2.cell? ⟨be, 4, none⟩ = some (.pointer (some ⟨R.bm, 0, none⟩)) := h2.eng.cell 4
  have hst := mach_steps (h2.mach.other (a := ⟨R.pa p, 3, none⟩) (h2.nP hp) (.int .i64 (((H.procs p).many : Int) + 1))) (p : Int)
  have hbe : be ≠ R.pa p := blk_ne h2.eng hx2.blk (by decide)
  have hlo := hO2.lt
  have hnob : ob ≠ R.pa p := by omega
  have hnoe : ob ≠ be := by omega
  have HST := Lib.hid hst
  have H2 := Lib.hid h2
  clear hb2 h1 hx1 p5 hst h2 HFT HF o0 o1 o2
  go_wp2_with (go_at_call 50; refine HST.out.mono ?_; rintro e w3 ⟨rfl, rfl⟩)
  generalize (⟨cellsH n H, R.steps⟩ : MS).stepsOf (p : Int) = bf at *
  have hB5 := hB3.set 4 (.int .i64 bf)
  have nP := H2.out.nP hp
  have hE5 := (H2.out.eng.other (a := ⟨R.pa p, 3, none⟩) hbe (.int .i64 (((H.procs p).many : Int) + 1))).other (a := ⟨R.pa p, 4, none⟩) hbe (.int .i64 bf)
  have hM5 := (H2.out.mach.other (a := ⟨R.pa p, 3, none⟩) nP (.int .i64 (((H.procs p).many : Int) + 1))).other (a := ⟨R.pa p, 4, none⟩) nP (.int .i64 bf)
  have hO5 := (hO2.other (a := ⟨R.pa p, 3, none⟩) hnob (.int .i64 (((H.procs p).many : Int) + 1))).other (a := ⟨R.pa p, 4, none⟩) hnob (.int .i64 bf)
  have K25 : Keeps (fun k => k = R.pa p) w2 _ := ((Keeps.refl (fun k => k = R.pa p) w2).set (R.pa p) 3 (.inl rfl) (.int .i64 (((H.procs p).many : Int) + 1))).set (R.pa p) 4 (.inl rfl) (.int .i64 bf)
  have hN5 := own_keeps H2.out.nodes K25 (fun q hq hf => own_blk_ne H2.out.nodes hx2.blk (by decide) (by rw [hq, hf]))
  have hs25 := K25.size
  clear hB3 hO2 c3 c4 c5 e4 f3 f4 hO1 hlo HST
  generalize ((w2.setCell ⟨R.pa p, 3, none⟩ (.int .i64 (((H.procs p).many : Int) + 1))).setCell ⟨R.pa p, 4, none⟩ (.int .i64 bf)) = w5 at *
  have c3 : w5.cell? ⟨R.pa p, 3, none⟩ = some (.int .i64 (((H.procs p).many : Int) + 1)) := hB5.cell 3
  have o0 : w5.cell? ⟨ob, 0, none⟩ = some (.int .i64 o.code) := hO5.cell 0
  have o1 : w5.cell? ⟨ob, 1, none⟩ = some (.int .i64 o.a) := hO5.cell 1
  have o2 : w5.cell? ⟨ob, 2, none⟩ = some (.int .i64 o.b) := hO5.cell 2
  have hW6 := (Keeps.refl (fun _ => False) w5).alloc (.cells #[.int .i64 p, .int .i64 (((H.procs p).many : Int) + 1), .int .i64 0, .int .i64 0, .int .i64 0, .int .i64 o.code, .int .i64 o.a, .int .i64 o.b, .int .i64 0, .slice none 0 0, .bool false, .int .i64 0, .int .i64 0] 102)
  have hI6 : AddIn (w5.alloc (.cells #[.int .i64 p, .int .i64 (((H.procs p).many : Int) + 1), .int .i64 0, .int .i64 0, .int .i64 0, .int .i64 o.code, .int .i64 o.a, .int .i64 o.b, .int .i64 0, .slice none 0 0, .bool false, .int .i64 0, .int .i64 0] 102)).drew be R.bm w5.heap.size R.vc R.vs R.vn _ _ _ _ _ _ _ _ _ _ _ _ _ _ _ _ _ _ _ _ (cellsH n H) R.steps ((List.range H.nodes.length).map fun i => ptrV (R.na i)) :=
    ⟨(hE5.alloc _).drew, (hM5.alloc _).drew, (Blk.new w5 _ _).drew, by simpa using own_drew (own_keeps hN5 hW6 (fun _ _ h => h)), by rw [cellsH_len]; have := H2.out.small; omega, by simp; omega⟩
  have HI6 := Lib.hid hI6
  have hBa := (hB5.alloc (.cells #[.int .i64 p, .int .i64 (((H.procs p).many : Int) + 1), .int .i64 0, .int .i64 0, .int .i64 0, .int .i64 o.code, .int .i64 o.a, .int .i64 o.b, .int .i64 0, .slice none 0 0, .bool false, .int .i64 0, .int .i64 0] 102)).drew
  have naF : ¬ addF be R.bm w5.heap.size R.vc R.vs R.vn (R.pa p) := by
    rintro (hf | hf | hf | hf)
    · exact nP hf
    · have := hB5.lt; omega
    · exact hbe hf.symm
    · exact own_blk_ne hN5 hB5 (by decide) hf
  have hPa := (hO5.alloc (.cells #[.int .i64 p, .int .i64 (((H.procs p).many : Int) + 1), .int .i64 0, .int .i64 0, .int .i64 0, .int .i64 o.code, .int .i64 o.a, .int .i64 o.b, .int .i64 0, .slice none 0 0, .bool false, .int .i64 0, .int .i64 0] 102)).drew
  have naP : ¬ addF be R.bm w5.heap.size R.vc R.vs R.vn ob := by
    rintro (hf | hf | hf | hf)
    · exact hM5.notF hO5 (by decide) (by decide) hf
    · have := hO5.lt; omega
    · exact hnoe hf
    · exact own_blk_ne hN5 hO5 (by decide) hf
  have hpl := hB5.lt
  have hsz : (w5.alloc (.cells #[.int .i64 p, .int .i64 (((H.procs p).many : Int) + 1), .int .i64 0, .int .i64 0, .int .i64 0, .int .i64 o.code, .int .i64 o.a, .int .i64 o.b, .int .i64 0, .slice none 0 0, .bool false, .int .i64 0, .int .i64 0] 102)).heap.size = w5.heap.size + 1 := by simp
  clear hI6
  refine start_ (n := 14) (S := fun w' => w'.cell? ⟨R.pa p, 3, none⟩ = some (.int .i64 (((H.procs p).many : Int) + 1)) ∧ w'.cell? ⟨ob, 0, none⟩ = some (.int .i64 o.code) ∧ w'.cell? ⟨ob, 1, none⟩ = some (.int .i64 o.a) ∧ w'.cell? ⟨ob, 2, none⟩ = some (.int .i64 o.b)) (ds := [13]) #[false, false, false, false, false, false, false, false, false, false, false, false, false, false] (by kernel_rfl) rfl rfl ⟨c3, o0, o1, o2⟩ (fun hHeld => ?_)
  refine pure_ (i := 0) (N := some 41) (v := ?_) (a' := ?_) #[true, false, false, false, false, false, false, false, false, false, false, false, false, false] rfl rfl (by kernel_rfl) (fun _ _ _ h => h) (Or.inl ⟨by rfl, ?_⟩) ?_ ?_
  rotate_left
  · intro w'
    go_simp
    with_reducible rfl
  rotate_left
  · simp only [Act.put, nA, nB, nC, i64_w, i32_w]
    rfl
  refine pure_ (i := 1) (N := some 42) (v := ?_) (a' := ?_) #[true, true, false, false, false, false, false, false, false, false, false, false, false, false] rfl rfl (by kernel_rfl) (fun _ _ _ h => h) (Or.inl ⟨by rfl, ?_⟩) ?_ ?_
  rotate_left
  · intro w'
    go_simp
    with_reducible rfl
  rotate_left
  · simp only [Act.put, nA, nB, nC, i64_w, i32_w]
    rfl
  refine pure_ (i := 2) (N := some 43) (v := ?_) (a' := ?_) #[true, true, true, false, false, false, false, false, false, false, false, false, false, false] rfl rfl (by kernel_rfl) (fun _ _ _ h => h) (Or.inl ⟨by rfl, ?_⟩) ?_ ?_
  rotate_left
  · intro w'
    go_simp
    with_reducible rfl
  rotate_left
  · simp only [Act.put, nA, nB, nC, i64_w, i32_w]
    rfl
  refine pure_ (i := 3) (N := some 44) (v := ?_) (a' := ?_) #[true, true, true, true, false, false, false, false, false, false, false, false, false, false] rfl rfl (by kernel_rfl) (fun _ _ _ h => h) (Or.inl ⟨by rfl, ?_⟩) ?_ ?_
  rotate_left
  · intro w'
    go_simp
    with_reducible rfl
  rotate_left
  · simp only [Act.put, nA, nB, nC, i64_w, i32_w]
    rfl
  refine pure_ (i := 4) (N := some 45) (v := ?_) (a' := ?_) #[true, true, true, true, true, false, false, false, false, false, false, false, false, false] rfl rfl (by kernel_rfl) (fun _ _ _ h => h) (Or.inl ⟨by rfl, ?_⟩) ?_ ?_
  rotate_left
  · intro w'
    go_simp
    with_reducible rfl
  rotate_left
  · simp only [Act.put, nA, nB, nC, i64_w, i32_w]
    rfl
  refine pure_ (i := 5) (N := some 46) (v := ?_) (a' := ?_) #[true, true, true, true, true, true, false, false, false, false, false, false, false, false] rfl rfl (by kernel_rfl) (fun _ _ _ h => h) (Or.inl ⟨by rfl, ?_⟩) ?_ ?_
  rotate_left
  · intro w'
    go_simp
    with_reducible rfl
  rotate_left
  · simp only [Act.put, nA, nB, nC, i64_w, i32_w]
    rfl
  refine take_ (i := 6) (N := some 47) (v := ?_) (a' := ?_) #[true, true, true, true, true, true, true, false, false, false, false, false, false, false] rfl rfl (by kernel_rfl) (fun _ _ _ h => h) (Or.inl ⟨by rfl, ?_⟩) hHeld ?_ ?_
  rotate_left
  · rintro w' ⟨s0, s1, s2, s3⟩
    go_simp
    with_reducible rfl
  rotate_left
  · simp only [Act.put, nA, nB, nC, i64_w, i32_w]
    rfl
  refine take_ (i := 7) (N := some 48) (v := ?_) (a' := ?_) #[true, true, true, true, true, true, true, true, false, false, false, false, false, false] rfl rfl (by kernel_rfl) (fun _ _ _ h => h) (Or.inl ⟨by rfl, ?_⟩) hHeld ?_ ?_
  rotate_left
  · rintro w' ⟨s0, s1, s2, s3⟩
    go_simp
    with_reducible rfl
  rotate_left
  · simp only [Act.put, nA, nB, nC, i64_w, i32_w]
    rfl
  refine pure_ (i := 8) (N := some 49) (v := ?_) (a' := ?_) #[true, true, true, true, true, true, true, true, true, false, false, false, false, false] rfl rfl (by kernel_rfl) (fun _ _ _ h => h) (Or.inl ⟨by rfl, ?_⟩) ?_ ?_
  rotate_left
  · intro w'
    go_simp
    with_reducible rfl
  rotate_left
  · simp only [Act.put, nA, nB, nC, i64_w, i32_w]
    rfl
  refine one_ (i := 9) (N := some 50) #[true, true, true, true, true, true, true, true, true, true, false, false, false, false] rfl rfl (by kernel_rfl) (by decide) (fun K hK => ?_)
  refine value_ (w1 := ?_) (v := ?_) (by rfl) rfl ?_ ?_
  rotate_left 2
  · go_simp
    constructor
    · rfl
    · rfl
  try clear hHeld
  refine hK.out _ _ ⟨(hW6.cellSome (fun h => h) c3), (hW6.cellSome (fun h => h) o0), (hW6.cellSome (fun h => h) o1), (hW6.cellSome (fun h => h) o2)⟩ (fun hHeld => ?_)
  clear hK K
  refine norm_ (a' := ?_) ?_ ?_
  rotate_left
  · show Act.put _ (some 50) _ = _
    simp only [Act.put, nA, nB, nC, i64_w, i32_w]
    rfl
  refine one_ (i := 10) (N := some 51) #[true, true, true, true, true, true, true, true, true, true, true, false, false, false] rfl rfl (by kernel_rfl) (by decide) (fun K hK => ?_)
  refine goes_ Try.func52 (by kernel_rfl) rfl #[.pointer (some ⟨be, 0, none⟩), .pointer (some ⟨w5.heap.size, 0, none⟩)] (by rfl) rfl rfl (by simp only [List.map_toArray, List.map_cons, List.map_nil]; rfl) ?_
  with_reducible refine ((he_add HI6.out)).mono ?_
  rintro e w7 ⟨rfl, vc7, vn7, hE7, hM7, hN7, hO7, hK7, hG7, hf7⟩
  refine ⟨_, rfl, ?_⟩
  have hB7 := hBa.keeps hK7 naF
  have b2 := hB7.cell 2
  simp at b2
  have bf2 := hB7.frozen 2
  have hP7 := hPa.keeps hK7 naP
  simp only [List.length_map, List.length_range]
  try clear hHeld
  refine hK.out _ _ ⟨hB7.cell 3, hP7.cell 0, hP7.cell 1, hP7.cell 2⟩ (fun hHeld => ?_)
  clear hK K
  refine norm_ (a' := ?_) ?_ ?_
  rotate_left
  · show Act.put _ (some 51) _ = _
    simp only [Act.put, nA, nB, nC, i64_w, i32_w]
    rfl
  refine pure_ (i := 11) (N := some 52) (v := ?_) (a' := ?_) #[true, true, true, true, true, true, true, true, true, true, true, true, false, false] rfl rfl (by kernel_rfl) (fun _ _ _ h => h) (Or.inl ⟨by rfl, ?_⟩) ?_ ?_
  rotate_left
  · intro w'
    go_simp
    with_reducible rfl
  rotate_left
  · simp only [Act.put, nA, nB, nC, i64_w, i32_w]
    rfl
  refine pure_ (i := 12) (N := some 53) (v := ?_) (a' := ?_) #[true, true, true, true, true, true, true, true, true, true, true, true, true, false] rfl rfl (by kernel_rfl) (fun _ _ _ h => h) (Or.inl ⟨by rfl, ?_⟩) ?_ ?_
  rotate_left
  · intro w'
    go_simp
    with_reducible rfl
  rotate_left
  · simp only [Act.put, nA, nB, nC, i64_w, i32_w]
    rfl
  refine last_ (i := 13) (N := none) #[true, true, true, true, true, true, true, true, true, true, true, true, true, true] rfl rfl (by kernel_rfl) (by decide) (fun K hK => ?_)
  refine skip_ (w1 := ?_) (by rfl) rfl ?_ ?_
  rotate_left
  · go_simp
    rfl
  try clear hHeld
  refine hK.out _ _ ?_
  clear hK K
  try clear hHeld
  refine done_ (by kernel_rfl) ?_
  clear c3 o0 o1 o2 b2 bf2
  have hB8 := hB7.set 2 (.int .i64 H.nodes.length)
  have c5 := hB8.cell 5
  have f5 := hB8.frozen 5
  have hm := hmf
  go_wp2_with fail
  go_ret
  rw [cellsH_len] at hN7
  simp only [List.length_map, List.length_range] at hO7
  have kW : Keeps (askFH R be p) w2 _ := ((K25.mono fun q hq => .inl (.inr hq)).trans' (((Keeps.refl (askFH R be p) w5).alloc _).drew)).trans hK7 (fun q hq => by
    rcases hq with hq | hq | hq | hq
    · exact .inl (.inl (.inl hq))
    · exact .inr (by omega)
    · exact .inl (.inr (.inl hq))
    · exact .inl (.inr (.inr hq)))
  have hpw : R.pa p ≠ w5.heap.size := by omega
  have hzz : w2.heap.size ≤ w5.heap.size := hs25
  have nM7 : ∀ q, machF R.bm vc7 R.vs q → machF R.bm R.vc R.vs q ∨ w2.heap.size ≤ q := fun q hq => (hG7 q hq).imp id (fun h => by simp at h; omega)
  refine HPost.from (by rw [HOB.out]; exact HB1.out.trans (HB2.out.mono HBW.out) : Below w.heap.size w w2) ?_
  exact H2.out.addFin hp HC.out (x := { H.procs p with many := (H.procs p).many + 1, node := H.nodes.length, ph := .announce }) (bf := bf) (v := ⟨p, (H.procs p).many + 1, o, 0, false, ⟨0, [], false, 0⟩, 0⟩) (vl := .slice none 0 0) ((kW.set (R.pa p) 2 (.inl (.inl (.inr rfl))) (.int .i64 H.nodes.length)).set (R.pa p) 5 (.inl (.inl (.inr rfl))) (bound 57 (R.pa p)))
    (hB8.set 5 _) ((hE7.other hbe _).other hbe _) ((hM7.other (hM7.notF hB7 (by decide) (by decide)) _).other (hM7.notF hB7 (by decide) (by decide)) _) (own_set (own_set hO7 hB7 (by decide) _ _) hB8 (by decide) _ _) hzz ((hN7.other hpw.symm _).other hpw.symm _) rfl rfl (rd_nil _) (fun h0 => absurd h0 (by simp)) nM7
    (hf7.imp id (fun hf k hk => by have := hf k hk; simp at this; omega)) (.int .i64 0)
end Go.Proofs.Ytjfenjnnpikkdaa
