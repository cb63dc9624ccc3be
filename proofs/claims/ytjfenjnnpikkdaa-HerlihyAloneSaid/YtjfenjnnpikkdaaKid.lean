/-
  Package herlihy: reckon.
-/
import Derived.Test.YtjfenjnnpikkdaaKad
import Derived.Test.YtjfenjnnpikkdaaKic
set_option linter.unusedVariables false
set_option linter.unusedSimpArgs false
namespace Go.Proofs.Ytjfenjnnpikkdaa
set_option maxRecDepth 100000
open Go.RowKit
open Go.Proofs.YtjfenjnnpikkdaaW.PrintLast

theorem cval_done_upd {n i : Nat} {H : HS} {v : HNode} (hi : i < H.nodes.length) (hpl : v.place = (H.nd i).place) (hd : v.done = true) (pr : Nat → HProc) (j : Nat) : cval n { H.setN i v with procs := pr } j = if j = ncell n i + 2 then (1 : Int) else cval n H j := by
  have hnd : ∀ k, HS.nd { H.setN i v with procs := pr } k = if k = i then v else H.nd k := fun k => nd_setN _ hi k
  have ha : ({ H.setN i v with procs := pr } : HS).ann = H.ann := rfl
  have hh : ({ H.setN i v with procs := pr } : HS).head = H.head := rfl
  have hc : ({ H.setN i v with procs := pr } : HS).chain = H.chain := rfl
  generalize ({ H.setN i v with procs := pr } : HS) = H' at *
  unfold cval ncell
  rw [ha, hh, hc]
  by_cases h1 : j < n
  · have e : ¬ j = 2 * n + 3 * i + 2 := by omega
    rw [if_pos h1, if_neg e, if_pos h1]
  · rw [if_neg h1, if_neg h1]
    by_cases h2 : j < 2 * n
    · have e : ¬ j = 2 * n + 3 * i + 2 := by omega
      rw [if_pos h2, if_neg e, if_pos h2]
    · rw [if_neg h2, if_neg h2]
      by_cases h3 : (j - 2 * n) % 3 = 0
      · have e : ¬ j = 2 * n + 3 * i + 2 := by omega
        rw [if_pos h3, if_pos h3, if_neg e, hnd]
        by_cases e2 : (j - 2 * n) / 3 = i
        · rw [if_pos e2, e2, hpl]
        · rw [if_neg e2]
      · rw [if_neg h3, if_neg h3]
        by_cases h4 : (j - 2 * n) % 3 = 1
        · have e : ¬ j = 2 * n + 3 * i + 2 := by omega
          rw [if_pos h4, if_neg e, if_pos h4]
        · rw [if_neg h4, if_neg h4, hnd]
          by_cases e2 : (j - 2 * n) / 3 = i
          · rw [if_pos e2, if_pos (show j = 2 * n + 3 * i + 2 by omega), hd]; rfl
          · rw [if_neg e2, if_neg (show ¬ j = 2 * n + 3 * i + 2 by omega)]
/-- A step that turns one node as well. -/
theorem HRep.turnN {w w' : World} {base be n p i : Nat} {R : HRef} {s : St} {H : HS} (h : HRep w base be R n s H) (hp : p < n) (hi : i < H.nodes.length) (k : Keeps (fun k => hturnF R p k ∨ k = R.na i) w w') (v : HNode) (own' : Nat → Option HTag)
    (ho : ∀ k t, R.own k = some t → own' k = some t) (hof : ∀ k, own' k ≠ none → base ≤ k ∧ k < w'.heap.size) (steps : List Int) (x : HProc) (bf : Int)
    (hM : Mach w' R.bm R.vc R.vs ⟨cellsH n ⟨H.nodes.set i v, H.chain, H.ann, H.head, upd H.procs p x⟩, steps⟩) (hX : Blk w' (R.pa p) (hprocV be p x bf (hphV (R.pa p) x.ph)) 98)
    (vl : Value) (hN : Blk w' (R.na i) (hnodeV n i v vl) 102) (hR : Rd w' vl v.st.L) (hT : 0 < v.st.L.length → ∀ k, vl.ownBlock = some k → own' k = some .imm ∨ k < base) :
    HRep w' base be { R with own := own', steps := steps, bef := upd R.bef p bf } n s ⟨H.nodes.set i v, H.chain, H.ann, H.head, upd H.procs p x⟩ := by
  have hF : ∀ k, (hturnF R p k ∨ k = R.na i) → R.own k = some .mach ∨ R.own k = some (.proc p) ∨ R.own k = some .node := fun k hk => by
    rcases hk with (hk | rfl) | rfl
    · exact .inl (h.machT k hk)
    · exact .inr (.inl (h.proc p hp).tag)
    · exact .inr (.inr (h.node i hi).1)
  have hs : ∀ {t : HTag} {k}, t ≠ .mach → t ≠ .proc p → t ≠ .node → R.own k = some t → ¬ (hturnF R p k ∨ k = R.na i) := fun h1 h2 h3 hk hf => by
    rcases hF _ hf with e | e | e <;> rw [hk] at e <;> injection e with e
    · exact h1 e
    · exact h2 e
    · exact h3 e
  have hba : ∀ k, (hturnF R p k ∨ k = R.na i) → base ≤ k := fun k hk => (h.fresh k (by rcases hF k hk with e | e | e <;> rw [e] <;> simp)).1
  have hll : (H.nodes.set i v).length = H.nodes.length := by simp
  refine ⟨h.small, hof, h.eng.keeps k (hs (by simp) (by simp) (by simp) h.engT), ho _ _ h.engT, rd_keeps h.start k ?_, fun h0 q hq => (h.startT h0 q hq).imp (ho _ _) id, hM, fun q hq => ho _ _ (h.machT q hq), own_keeps h.procs k (fun q hq => hs (by simp) (by simp) (by simp) (h.procsT q hq)), fun q hq => ho _ _ (h.procsT q hq), ?_,
    ?_, fun q hq => ho _ _ (h.nodesT q hq), ?_, fun a b ha hb e => h.inj a b (by rw [← hll]; exact ha) (by rw [← hll]; exact hb) e⟩
  · intro h0 q hq hf
    rcases h.startT h0 q hq with g | g
    · exact hs (by simp) (by simp) (by simp) g hf
    · have := hba q hf; omega
  · intro q hq
    by_cases e : q = p
    · subst e
      refine ⟨ho _ _ (h.proc q hq).tag, ?_⟩
      simp only [upd_same]
      exact hX
    · have hx := h.proc q hq
      refine ⟨ho _ _ hx.tag, ?_⟩
      simp only [upd_ne _ _ e]
      exact hx.blk.keeps k (hs (by simp) (by simp; exact e) (by simp) hx.tag)
  · show Own w' _ 1 R.vn (H.nodes.set i v).length ((List.range (H.nodes.set i v).length).map fun i => ptrV (R.na i))
    rw [hll]
    exact own_keeps h.nodes k (fun q hq => hs (by simp) (by simp) (by simp) (h.nodesT q hq))
  · intro j hj
    have hj' : j < H.nodes.length := by rw [← hll]; exact hj
    show NRep w' base own' n (R.na j) j ((H.nodes.set i v).getD j noNode)
    by_cases e : i = j
    · subst e
      rw [show (H.nodes.set i v).getD i noNode = v by simp [List.getD_eq_getElem?_getD, hi]]
      exact ⟨ho _ _ (h.node i hi).1, vl, hN, hR, hT⟩
    · rw [show (H.nodes.set i v).getD j noNode = H.nd j by rw [List.getD_eq_getElem?_getD, List.getElem?_set, if_neg e]; rfl]
      obtain ⟨t0, vj, b1, r1, l1⟩ := h.node j hj'
      have hnj : ¬ (hturnF R p (R.na j) ∨ R.na j = R.na i) := by
        rintro ((hf | hf) | hf)
        · have := h.machT _ hf; rw [t0] at this; simp at this
        · rw [hf, (h.proc p hp).tag] at t0; simp at t0
        · exact e (h.inj j i hj' hi hf).symm
      refine ⟨ho _ _ t0, vj, b1.keeps k hnj, rd_keeps r1 k ?_, fun h0 q hq => (l1 h0 q hq).imp (ho _ _) id⟩
      intro h0 q hq hf
      rcases l1 h0 q hq with g | g
      · exact hs (by simp) (by simp) (by simp) g hf
      · have := hba q hf; omega
open Classical in
/-- The tags behind a reckoning: what a new list lies in can not be turned any more. -/
noncomputable def ownStep (own : Nat → Option HTag) (size size' : Nat) (vl : Value) (k : Nat) : Option HTag := if vl.ownBlock = some k ∧ size ≤ k ∧ k < size' then some .imm else own k
theorem ownStep_old {own : Nat → Option HTag} {size size' k : Nat} (vl : Value) (h : k < size) : ownStep own size size' vl k = own k := by
  unfold ownStep; rw [if_neg (fun g => by omega)]
theorem ownStep_new {own : Nat → Option HTag} {size size' k : Nat} {vl : Value} (h : size ≤ k) (h2 : k < size') (hk : vl.ownBlock = some k) : ownStep own size size' vl k = some .imm := by
  unfold ownStep; rw [if_pos ⟨hk, h, h2⟩]
set_option maxRecDepth 100000 in
set_option maxHeartbeats 3200000 in
theorem he_reckon {w : World} {base be n p : Nat} {R : HRef} {s : St} {H : HS} (h : HRep w base be R n s H) (hp : p < n) (hph : (H.procs p).ph = .reckon) (ha : (H.procs p).after < H.nodes.length) (hat : (H.procs p).at_ < H.nodes.length) (hne : (H.procs p).at_ ≠ (H.procs p).after) (hL : (H.nd (H.procs p).at_).st.L.length ≤ 300) :
    Calls Try.prog 107 #[.pointer (some ⟨R.pa p, 0, none⟩)] w (HPost w base be R n s (H.step n p).1 (.tuple #[.int .i64 0, .bool false])) := by
  obtain ⟨i, hi⟩ : ∃ i, i = (H.procs p).after := ⟨_, rfl⟩
  obtain ⟨j, hj⟩ : ∃ j, j = (H.procs p).at_ := ⟨_, rfl⟩
  obtain ⟨q, hq⟩ : ∃ q, q = stepS (H.nd j).st (H.nd i).op := ⟨_, rfl⟩
  have e0 : (H.step n p).1 = ⟨H.nodes.set i { H.nd i with st := q.1, resp := q.2, done := true }, H.chain, H.ann, H.head, upd H.procs p { H.procs p with ph := .number }⟩ := by unfold HS.step; rw [hph, hq, hi, hj]; rfl
  rw [e0]
  clear e0
  have hx := h.proc p hp
  have p0 : w.cell? ⟨R.pa p, 0, none⟩ = some (.pointer (some ⟨be, 0, none⟩)) := hx.blk.cell 0
  have p1 : w.cell? ⟨R.pa p, 1, none⟩ = some (.int .i64 p) := hx.blk.cell 1
  have p8 : w.cell? ⟨R.pa p, 8, none⟩ = some (.int .i64 (H.procs p).after) := hx.blk.cell 8
  have p9 : w.cell? ⟨R.pa p, 9, none⟩ = some (.int .i64 (H.procs p).at_) := hx.blk.cell 9
  have e4 : w.cell? ⟨be, 4, none⟩ = some (.pointer (some ⟨R.bm, 0, none⟩)) := h.eng.cell 4
  have nP := h.nP hp
  have nE := h.nE
  have hsm := h.small
  have hm := hmf
  rw [← hi] at p8 ha
  rw [← hj] at p9 hat hL
  rw [← hi, ← hj] at hne
  clear hi hj
  obtain ⟨gv, cv, e8, gi, gn, nG, nN⟩ := h.viewNode ha
  obtain ⟨gv', cv', e8', gj, -, -, nNj⟩ := h.viewNode hat
  have eg : gv' = gv := by rw [e8] at e8'; simp at e8'; exact e8'.1.symm
  subst eg
  clear e8'
  obtain ⟨ti, vi, bi, ri, li⟩ := h.node i ha
  obtain ⟨tj, vj, bj, rj, lj⟩ := h.node j hat
  obtain ⟨cl, hcl⟩ : ∃ cl : Nat, cl = ncell n i + 2 := ⟨_, rfl⟩
  have n2 := gn 2 cl (by decide) hcl
  have hcb : cl < 2 * n + 3 * H.nodes.length := by rw [hcl]; exact ncell_lt ha (by decide)
  clear gn
  have x1 : (0 : Int) ≤ ((i : Nat) : Int) := by omega
  have x2 : ((i : Nat) : Int) < (H.nodes.length : Int) := by omega
  have x3 : (0 : Int) ≤ ((j : Nat) : Int) := by omega
  have x4 : ((j : Nat) : Int) < (H.nodes.length : Int) := by omega
  have hst := fun W hx => Lib.hid (o_step (w := W) (vl := vj) (H.nd j).st (H.nd i).op hx (by omega))
  simp only [← hq] at hst
  obtain ⟨aj, cj, hvj, -⟩ := id rj
  have o5 : w.cell? ⟨R.na i, 5, none⟩ = some (.int .i64 (H.nd i).op.code) := bi.cell 5
  have o6 : w.cell? ⟨R.na i, 6, none⟩ = some (.int .i64 (H.nd i).op.a) := bi.cell 6
  have o7 : w.cell? ⟨R.na i, 7, none⟩ = some (.int .i64 (H.nd i).op.b) := bi.cell 7
  have m8 : w.cell? ⟨R.na j, 8, none⟩ = some (.int .i64 (H.nd j).st.kind) := bj.cell 8
  have m9 : w.cell? ⟨R.na j, 9, none⟩ = some vj := bj.cell 9
  have m10 : w.cell? ⟨R.na j, 10, none⟩ = some (.bool (H.nd j).st.isSealed) := bj.cell 10
  have m11 : w.cell? ⟨R.na j, 11, none⟩ = some (.int .i64 (H.nd j).st.to) := bj.cell 11
  subst hvj
  have HQ := Lib.hid hq
  have HB := Lib.hid bi
  have HJ := Lib.hid lj
  have HRJ := Lib.hid rj
  have HCL := Lib.hid hcl
  clear hq hcl bi bj ri rj li lj
  go_enter Try.func107, Try.ntmps107
  go_wp2_with fail
  refine start_ (n := 14) (S := fun w' => w'.cell? ⟨R.pa p, 0, none⟩ = some (.pointer (some ⟨be, 0, none⟩)) ∧ w'.cell? ⟨R.pa p, 8, none⟩ = some (.int .i64 i) ∧ w'.cell? ⟨be, 8, none⟩ = some (.slice (some ⟨gv', 0, none⟩) H.nodes.length cv) ∧ w'.cell? ⟨gv', i, none⟩ = some (.pointer (some ⟨R.na i, 0, none⟩))) (ds := []) #[false, false, false, false, false, false, false, false, false, false, false, false, false, false] (by kernel_rfl) rfl rfl ⟨p0, p8, e8, gi⟩ (fun hHeld => ?_)
  refine pure_ (i := 0) (N := some 5) (v := ?_) (a' := ?_) #[true, false, false, false, false, false, false, false, false, false, false, false, false, false] rfl rfl (by kernel_rfl) (fun _ _ _ h => h) (Or.inl ⟨by rfl, ?_⟩) ?_ ?_
  rotate_left
  · intro w'
    go_simp
    with_reducible rfl
  rotate_left
  · simp only [Act.put, nA, nB, nC, i64_w, i32_w]
    rfl
  refine pure_ (i := 1) (N := some 6) (v := ?_) (a' := ?_) #[true, true, false, false, false, false, false, false, false, false, false, false, false, false] rfl rfl (by kernel_rfl) (fun _ _ _ h => h) (Or.inl ⟨by rfl, ?_⟩) ?_ ?_
  rotate_left
  · intro w'
    go_simp
    with_reducible rfl
  rotate_left
  · simp only [Act.put, nA, nB, nC, i64_w, i32_w]
    rfl
  refine pure_ (i := 2) (N := some 7) (v := ?_) (a' := ?_) #[true, true, true, false, false, false, false, false, false, false, false, false, false, false] rfl rfl (by kernel_rfl) (fun _ _ _ h => h) (Or.inl ⟨by rfl, ?_⟩) ?_ ?_
  rotate_left
  · intro w'
    go_simp
    with_reducible rfl
  rotate_left
  · simp only [Act.put, nA, nB, nC, i64_w, i32_w]
    rfl
  refine pure_ (i := 7) (N := some 12) (v := ?_) (a' := ?_) #[true, true, true, false, false, false, false, true, false, false, false, false, false, false] rfl rfl (by kernel_rfl) (fun _ _ _ h => h) (Or.inl ⟨by rfl, ?_⟩) ?_ ?_
  rotate_left
  · intro w'
    go_simp
    with_reducible rfl
  rotate_left
  · simp only [Act.put, nA, nB, nC, i64_w, i32_w]
    rfl
  refine pure_ (i := 8) (N := some 13) (v := ?_) (a' := ?_) #[true, true, true, false, false, false, false, true, true, false, false, false, false, false] rfl rfl (by kernel_rfl) (fun _ _ _ h => h) (Or.inl ⟨by rfl, ?_⟩) ?_ ?_
  rotate_left
  · intro w'
    go_simp
    with_reducible rfl
  rotate_left
  · simp only [Act.put, nA, nB, nC, i64_w, i32_w]
    rfl
  refine pure_ (i := 9) (N := some 14) (v := ?_) (a' := ?_) #[true, true, true, false, false, false, false, true, true, true, false, false, false, false] rfl rfl (by kernel_rfl) (fun _ _ _ h => h) (Or.inl ⟨by rfl, ?_⟩) ?_ ?_
  rotate_left
  · intro w'
    go_simp
    with_reducible rfl
  rotate_left
  · simp only [Act.put, nA, nB, nC, i64_w, i32_w]
    rfl
  refine take_ (i := 3) (N := some 8) (v := ?_) (a' := ?_) #[true, true, true, true, false, false, false, true, true, true, false, false, false, false] rfl rfl (by kernel_rfl) (fun _ _ _ h => h) (Or.inl ⟨by rfl, ?_⟩) hHeld ?_ ?_
  rotate_left
  · rintro w' ⟨s0, s1, s2, s3⟩
    go_simp
    with_reducible rfl
  rotate_left
  · simp only [Act.put, nA, nB, nC, i64_w, i32_w]
    rfl
  refine pure_ (i := 4) (N := some 9) (v := ?_) (a' := ?_) #[true, true, true, true, true, false, false, true, true, true, false, false, false, false] rfl rfl (by kernel_rfl) (fun _ _ _ h => h) (Or.inl ⟨by rfl, ?_⟩) ?_ ?_
  rotate_left
  · intro w'
    go_simp
    with_reducible rfl
  rotate_left
  · simp only [Act.put, nA, nB, nC, i64_w, i32_w]
    rfl
  refine pure_ (i := 5) (N := some 10) (v := ?_) (a' := ?_) #[true, true, true, true, true, true, false, true, true, true, false, false, false, false] rfl rfl (by kernel_rfl) (fun _ _ _ h => h) (Or.inl ⟨by rfl, ?_⟩) ?_ ?_
  rotate_left
  · intro w'
    go_simp
    with_reducible rfl
  rotate_left
  · simp only [Act.put, nA, nB, nC, i64_w, i32_w]
    rfl
  refine take_ (i := 6) (N := some 11) (v := ?_) (a' := ?_) #[true, true, true, true, true, true, true, true, true, true, false, false, false, false] rfl rfl (by kernel_rfl) (fun _ _ _ h => h) (Or.inl ⟨by rfl, ?_⟩) hHeld ?_ ?_
  rotate_left
  · rintro w' ⟨s0, s1, s2, s3⟩
    go_simp
    with_reducible rfl
  rotate_left
  · simp only [Act.put, nA, nB, nC, i64_w, i32_w]
    rfl
  refine take_ (i := 10) (N := some 15) (v := ?_) (a' := ?_) #[true, true, true, true, true, true, true, true, true, true, true, false, false, false] rfl rfl (by kernel_rfl) (fun _ _ _ h => h) (Or.inl ⟨by rfl, ?_⟩) hHeld ?_ ?_
  rotate_left
  · rintro w' ⟨s0, s1, s2, s3⟩
    go_simp
    with_reducible rfl
  rotate_left
  · simp only [Act.put, nA, nB, nC, i64_w, i32_w]
    rfl
  refine pure_ (i := 11) (N := some 16) (v := ?_) (a' := ?_) #[true, true, true, true, true, true, true, true, true, true, true, true, false, false] rfl rfl (by kernel_rfl) (fun _ _ _ h => h) (Or.inl ⟨by rfl, ?_⟩) ?_ ?_
  rotate_left
  · intro w'
    go_simp
    with_reducible rfl
  rotate_left
  · simp only [Act.put, nA, nB, nC, i64_w, i32_w]
    rfl
  refine take_ (i := 12) (N := some 17) (v := ?_) (a' := ?_) #[true, true, true, true, true, true, true, true, true, true, true, true, true, false] rfl rfl (by kernel_rfl) (fun _ _ _ h => h) (Or.inl ⟨by rfl, ?_⟩) hHeld ?_ ?_
  rotate_left
  · rintro w' ⟨s0, s1, s2, s3⟩
    go_simp
    with_reducible rfl
  rotate_left
  · simp only [Act.put, nA, nB, nC, i64_w, i32_w]
    rfl
  refine pure_ (i := 13) (N := some 4) (v := ?_) (a' := ?_) #[true, true, true, true, true, true, true, true, true, true, true, true, true, true] rfl rfl (by kernel_rfl) (fun _ _ _ h => h) (Or.inl ⟨by rfl, ?_⟩) ?_ ?_
  rotate_left
  · intro w'
    go_simp
    with_reducible rfl
  rotate_left
  · simp only [Act.put, nA, nB, nC, i64_w, i32_w]
    rfl
  try clear hHeld
  refine done_ (by kernel_rfl) ?_
  have hbi : Blk w.drew.drew (R.na i) _ _ := HB.out
  have hri : R.na i < w.heap.size := HB.out.lt
  go_wp2_with fail
  refine start_ (n := 32) (S := fun w' => w'.cell? ⟨R.pa p, 0, none⟩ = some (.pointer (some ⟨be, 0, none⟩)) ∧ w'.cell? ⟨R.pa p, 9, none⟩ = some (.int .i64 j) ∧ w'.cell? ⟨be, 8, none⟩ = some (.slice (some ⟨gv', 0, none⟩) H.nodes.length cv) ∧ w'.cell? ⟨gv', j, none⟩ = some (.pointer (some ⟨R.na j, 0, none⟩)) ∧ w'.cell? ⟨R.na i, 5, none⟩ = some (.int .i64 (H.nd i).op.code) ∧ w'.cell? ⟨R.na i, 6, none⟩ = some (.int .i64 (H.nd i).op.a) ∧ w'.cell? ⟨R.na i, 7, none⟩ = some (.int .i64 (H.nd i).op.b) ∧ w'.cell? ⟨R.na j, 8, none⟩ = some (.int .i64 (H.nd j).st.kind) ∧ w'.cell? ⟨R.na j, 9, none⟩ = some (.slice aj (H.nd j).st.L.length cj) ∧ w'.cell? ⟨R.na j, 10, none⟩ = some (.bool (H.nd j).st.isSealed) ∧ w'.cell? ⟨R.na j, 11, none⟩ = some (.int .i64 (H.nd j).st.to)) (ds := [28, 31]) #[false, false, false, false, false, false, false, false, false, false, false, false, false, false, false, false, false, false, false, false, false, false, false, false, false, false, false, false, false, false, false, false] (by kernel_rfl) rfl rfl ⟨p0, p9, e8, gj, o5, o6, o7, m8, m9, m10, m11⟩ (fun hHeld => ?_)
  refine pure_ (i := 0) (N := some 19) (v := ?_) (a' := ?_) #[true, false, false, false, false, false, false, false, false, false, false, false, false, false, false, false, false, false, false, false, false, false, false, false, false, false, false, false, false, false, false, false] rfl rfl (by kernel_rfl) (fun _ _ _ h => h) (Or.inl ⟨by rfl, ?_⟩) ?_ ?_
  rotate_left
  · intro w'
    go_simp
    with_reducible rfl
  rotate_left
  · simp only [Act.put, nA, nB, nC, i64_w, i32_w]
    rfl
  refine pure_ (i := 1) (N := some 20) (v := ?_) (a' := ?_) #[true, true, false, false, false, false, false, false, false, false, false, false, false, false, false, false, false, false, false, false, false, false, false, false, false, false, false, false, false, false, false, false] rfl rfl (by kernel_rfl) (fun _ _ _ h => h) (Or.inl ⟨by rfl, ?_⟩) ?_ ?_
  rotate_left
  · intro w'
    go_simp
    with_reducible rfl
  rotate_left
  · simp only [Act.put, nA, nB, nC, i64_w, i32_w]
    rfl
  refine pure_ (i := 2) (N := some 21) (v := ?_) (a' := ?_) #[true, true, true, false, false, false, false, false, false, false, false, false, false, false, false, false, false, false, false, false, false, false, false, false, false, false, false, false, false, false, false, false] rfl rfl (by kernel_rfl) (fun _ _ _ h => h) (Or.inl ⟨by rfl, ?_⟩) ?_ ?_
  rotate_left
  · intro w'
    go_simp
    with_reducible rfl
  rotate_left
  · simp only [Act.put, nA, nB, nC, i64_w, i32_w]
    rfl
  refine pure_ (i := 3) (N := some 22) (v := ?_) (a' := ?_) #[true, true, true, true, false, false, false, false, false, false, false, false, false, false, false, false, false, false, false, false, false, false, false, false, false, false, false, false, false, false, false, false] rfl rfl (by kernel_rfl) (fun _ _ _ h => h) (Or.inl ⟨by rfl, ?_⟩) ?_ ?_
  rotate_left
  · intro w'
    go_simp
    with_reducible rfl
  rotate_left
  · simp only [Act.put, nA, nB, nC, i64_w, i32_w]
    rfl
  refine pure_ (i := 4) (N := some 23) (v := ?_) (a' := ?_) #[true, true, true, true, true, false, false, false, false, false, false, false, false, false, false, false, false, false, false, false, false, false, false, false, false, false, false, false, false, false, false, false] rfl rfl (by kernel_rfl) (fun _ _ _ h => h) (Or.inl ⟨by rfl, ?_⟩) ?_ ?_
  rotate_left
  · intro w'
    go_simp
    with_reducible rfl
  rotate_left
  · simp only [Act.put, nA, nB, nC, i64_w, i32_w]
    rfl
  refine pure_ (i := 9) (N := some 28) (v := ?_) (a' := ?_) #[true, true, true, true, true, false, false, false, false, true, false, false, false, false, false, false, false, false, false, false, false, false, false, false, false, false, false, false, false, false, false, false] rfl rfl (by kernel_rfl) (fun _ _ _ h => h) (Or.inl ⟨by rfl, ?_⟩) ?_ ?_
  rotate_left
  · intro w'
    go_simp
    with_reducible rfl
  rotate_left
  · simp only [Act.put, nA, nB, nC, i64_w, i32_w]
    rfl
  refine pure_ (i := 10) (N := some 29) (v := ?_) (a' := ?_) #[true, true, true, true, true, false, false, false, false, true, true, false, false, false, false, false, false, false, false, false, false, false, false, false, false, false, false, false, false, false, false, false] rfl rfl (by kernel_rfl) (fun _ _ _ h => h) (Or.inl ⟨by rfl, ?_⟩) ?_ ?_
  rotate_left
  · intro w'
    go_simp
    with_reducible rfl
  rotate_left
  · simp only [Act.put, nA, nB, nC, i64_w, i32_w]
    rfl
  refine pure_ (i := 11) (N := some 30) (v := ?_) (a' := ?_) #[true, true, true, true, true, false, false, false, false, true, true, true, false, false, false, false, false, false, false, false, false, false, false, false, false, false, false, false, false, false, false, false] rfl rfl (by kernel_rfl) (fun _ _ _ h => h) (Or.inl ⟨by rfl, ?_⟩) ?_ ?_
  rotate_left
  · intro w'
    go_simp
    with_reducible rfl
  rotate_left
  · simp only [Act.put, nA, nB, nC, i64_w, i32_w]
    rfl
  refine pure_ (i := 18) (N := some 37) (v := ?_) (a' := ?_) #[true, true, true, true, true, false, false, false, false, true, true, true, false, false, false, false, false, false, true, false, false, false, false, false, false, false, false, false, false, false, false, false] rfl rfl (by kernel_rfl) (fun _ _ _ h => h) (Or.inl ⟨by rfl, ?_⟩) ?_ ?_
  rotate_left
  · intro w'
    go_simp
    with_reducible rfl
  rotate_left
  · simp only [Act.put, nA, nB, nC, i64_w, i32_w]
    rfl
  refine pure_ (i := 19) (N := some 38) (v := ?_) (a' := ?_) #[true, true, true, true, true, false, false, false, false, true, true, true, false, false, false, false, false, false, true, true, false, false, false, false, false, false, false, false, false, false, false, false] rfl rfl (by kernel_rfl) (fun _ _ _ h => h) (Or.inl ⟨by rfl, ?_⟩) ?_ ?_
  rotate_left
  · intro w'
    go_simp
    with_reducible rfl
  rotate_left
  · simp only [Act.put, nA, nB, nC, i64_w, i32_w]
    rfl
  refine pure_ (i := 20) (N := some 39) (v := ?_) (a' := ?_) #[true, true, true, true, true, false, false, false, false, true, true, true, false, false, false, false, false, false, true, true, true, false, false, false, false, false, false, false, false, false, false, false] rfl rfl (by kernel_rfl) (fun _ _ _ h => h) (Or.inl ⟨by rfl, ?_⟩) ?_ ?_
  rotate_left
  · intro w'
    go_simp
    with_reducible rfl
  rotate_left
  · simp only [Act.put, nA, nB, nC, i64_w, i32_w]
    rfl
  refine take_ (i := 5) (N := some 24) (v := ?_) (a' := ?_) #[true, true, true, true, true, true, false, false, false, true, true, true, false, false, false, false, false, false, true, true, true, false, false, false, false, false, false, false, false, false, false, false] rfl rfl (by kernel_rfl) (fun _ _ _ h => h) (Or.inl ⟨by rfl, ?_⟩) hHeld ?_ ?_
  rotate_left
  · rintro w' ⟨s0, s1, s2, s3, s4, s5, s6, s7, s8, s9, s10⟩
    go_simp
    with_reducible rfl
  rotate_left
  · simp only [Act.put, nA, nB, nC, i64_w, i32_w]
    rfl
  refine pure_ (i := 6) (N := some 25) (v := ?_) (a' := ?_) #[true, true, true, true, true, true, true, false, false, true, true, true, false, false, false, false, false, false, true, true, true, false, false, false, false, false, false, false, false, false, false, false] rfl rfl (by kernel_rfl) (fun _ _ _ h => h) (Or.inl ⟨by rfl, ?_⟩) ?_ ?_
  rotate_left
  · intro w'
    go_simp
    with_reducible rfl
  rotate_left
  · simp only [Act.put, nA, nB, nC, i64_w, i32_w]
    rfl
  refine pure_ (i := 7) (N := some 26) (v := ?_) (a' := ?_) #[true, true, true, true, true, true, true, true, false, true, true, true, false, false, false, false, false, false, true, true, true, false, false, false, false, false, false, false, false, false, false, false] rfl rfl (by kernel_rfl) (fun _ _ _ h => h) (Or.inl ⟨by rfl, ?_⟩) ?_ ?_
  rotate_left
  · intro w'
    go_simp
    with_reducible rfl
  rotate_left
  · simp only [Act.put, nA, nB, nC, i64_w, i32_w]
    rfl
  refine take_ (i := 8) (N := some 27) (v := ?_) (a' := ?_) #[true, true, true, true, true, true, true, true, true, true, true, true, false, false, false, false, false, false, true, true, true, false, false, false, false, false, false, false, false, false, false, false] rfl rfl (by kernel_rfl) (fun _ _ _ h => h) (Or.inl ⟨by rfl, ?_⟩) hHeld ?_ ?_
  rotate_left
  · rintro w' ⟨s0, s1, s2, s3, s4, s5, s6, s7, s8, s9, s10⟩
    go_simp
    with_reducible rfl
  rotate_left
  · simp only [Act.put, nA, nB, nC, i64_w, i32_w]
    rfl
  refine take_ (i := 12) (N := some 31) (v := ?_) (a' := ?_) #[true, true, true, true, true, true, true, true, true, true, true, true, true, false, false, false, false, false, true, true, true, false, false, false, false, false, false, false, false, false, false, false] rfl rfl (by kernel_rfl) (fun _ _ _ h => h) (Or.inl ⟨by rfl, ?_⟩) hHeld ?_ ?_
  rotate_left
  · rintro w' ⟨s0, s1, s2, s3, s4, s5, s6, s7, s8, s9, s10⟩
    go_simp
    with_reducible rfl
  rotate_left
  · simp only [Act.put, nA, nB, nC, i64_w, i32_w]
    rfl
  refine pure_ (i := 13) (N := some 32) (v := ?_) (a' := ?_) #[true, true, true, true, true, true, true, true, true, true, true, true, true, true, false, false, false, false, true, true, true, false, false, false, false, false, false, false, false, false, false, false] rfl rfl (by kernel_rfl) (fun _ _ _ h => h) (Or.inl ⟨by rfl, ?_⟩) ?_ ?_
  rotate_left
  · intro w'
    go_simp
    with_reducible rfl
  rotate_left
  · simp only [Act.put, nA, nB, nC, i64_w, i32_w]
    rfl
  refine take_ (i := 14) (N := some 33) (v := ?_) (a' := ?_) #[true, true, true, true, true, true, true, true, true, true, true, true, true, true, true, false, false, false, true, true, true, false, false, false, false, false, false, false, false, false, false, false] rfl rfl (by kernel_rfl) (fun _ _ _ h => h) (Or.inl ⟨by rfl, ?_⟩) hHeld ?_ ?_
  rotate_left
  · rintro w' ⟨s0, s1, s2, s3, s4, s5, s6, s7, s8, s9, s10⟩
    go_simp
    with_reducible rfl
  rotate_left
  · simp only [Act.put, nA, nB, nC, i64_w, i32_w]
    rfl
  refine pure_ (i := 15) (N := some 34) (v := ?_) (a' := ?_) #[true, true, true, true, true, true, true, true, true, true, true, true, true, true, true, true, false, false, true, true, true, false, false, false, false, false, false, false, false, false, false, false] rfl rfl (by kernel_rfl) (fun _ _ _ h => h) (Or.inl ⟨by rfl, ?_⟩) ?_ ?_
  rotate_left
  · intro w'
    go_simp
    with_reducible rfl
  rotate_left
  · simp only [Act.put, nA, nB, nC, i64_w, i32_w]
    rfl
  refine pure_ (i := 16) (N := some 35) (v := ?_) (a' := ?_) #[true, true, true, true, true, true, true, true, true, true, true, true, true, true, true, true, true, false, true, true, true, false, false, false, false, false, false, false, false, false, false, false] rfl rfl (by kernel_rfl) (fun _ _ _ h => h) (Or.inl ⟨by rfl, ?_⟩) ?_ ?_
  rotate_left
  · intro w'
    go_simp
    with_reducible rfl
  rotate_left
  · simp only [Act.put, nA, nB, nC, i64_w, i32_w]
    rfl
  refine take_ (i := 17) (N := some 36) (v := ?_) (a' := ?_) #[true, true, true, true, true, true, true, true, true, true, true, true, true, true, true, true, true, true, true, true, true, false, false, false, false, false, false, false, false, false, false, false] rfl rfl (by kernel_rfl) (fun _ _ _ h => h) (Or.inl ⟨by rfl, ?_⟩) hHeld ?_ ?_
  rotate_left
  · rintro w' ⟨s0, s1, s2, s3, s4, s5, s6, s7, s8, s9, s10⟩
    go_simp
    with_reducible rfl
  rotate_left
  · simp only [Act.put, nA, nB, nC, i64_w, i32_w]
    rfl
  refine take_ (i := 21) (N := some 40) (v := ?_) (a' := ?_) #[true, true, true, true, true, true, true, true, true, true, true, true, true, true, true, true, true, true, true, true, true, true, false, false, false, false, false, false, false, false, false, false] rfl rfl (by kernel_rfl) (fun _ _ _ h => h) (Or.inl ⟨by rfl, ?_⟩) hHeld ?_ ?_
  rotate_left
  · rintro w' ⟨s0, s1, s2, s3, s4, s5, s6, s7, s8, s9, s10⟩
    go_simp
    with_reducible rfl
  rotate_left
  · simp only [Act.put, nA, nB, nC, i64_w, i32_w]
    rfl
  refine one_ (i := 22) (N := some 41) #[true, true, true, true, true, true, true, true, true, true, true, true, true, true, true, true, true, true, true, true, true, true, true, false, false, false, false, false, false, false, false, false] rfl rfl (by kernel_rfl) (by decide) (fun K hK => ?_)
  refine goes_ Try.func55 (by kernel_rfl) rfl #[.agg #[.int .i64 (H.nd j).st.kind, .slice aj (H.nd j).st.L.length cj, .bool (H.nd j).st.isSealed, .int .i64 (H.nd j).st.to], .agg #[.int .i64 (H.nd i).op.code, .int .i64 (H.nd i).op.a, .int .i64 (H.nd i).op.b]] (by rfl) rfl rfl (by simp only [List.map_toArray, List.map_cons, List.map_nil]; rfl) ?_
  with_reducible refine ((hst w.drew.drew HRJ.out.drew.drew).out).mono ?_
  rintro e w4 ⟨vl4, rfl, rd4, hb4, own4⟩
  refine ⟨_, rfl, ?_⟩
  obtain ⟨a4, c4, rfl, -⟩ := id rd4
  have K4 := Keeps.ofBelow (F := fun _ => False) hb4
  have hB4 : Blk w4 (R.na i) _ _ := hbi.below hb4 hbi.lt
  have f8 := hB4.frozen 8
  have f9 := hB4.frozen 9
  have f10 := hB4.frozen 10
  have f11 := hB4.frozen 11
  have f12 := hB4.frozen 12
  have t8 := hB4.cell 8
  have t9 := hB4.cell 9
  have t10 := hB4.cell 10
  have t11 := hB4.cell 11
  have t12 := hB4.cell 12
  simp at t8 t9 t10 t11 t12
  try clear hHeld
  refine hK.out _ _ ⟨(K4.cellSome (fun h => h) p0), (K4.cellSome (fun h => h) p9), (K4.cellSome (fun h => h) e8), (K4.cellSome (fun h => h) gj), (K4.cellSome (fun h => h) o5), (K4.cellSome (fun h => h) o6), (K4.cellSome (fun h => h) o7), (K4.cellSome (fun h => h) m8), (K4.cellSome (fun h => h) m9), (K4.cellSome (fun h => h) m10), (K4.cellSome (fun h => h) m11)⟩ (fun hHeld => ?_)
  clear hK K
  refine norm_ (a' := ?_) ?_ ?_
  rotate_left
  · show Act.put _ (some 41) _ = _
    simp only [Act.put, nA, nB, nC, i64_w, i32_w]
    rfl
  refine pure_ (i := 23) (N := some 18) (v := ?_) (a' := ?_) #[true, true, true, true, true, true, true, true, true, true, true, true, true, true, true, true, true, true, true, true, true, true, true, true, false, false, false, false, false, false, false, false] rfl rfl (by kernel_rfl) (fun _ _ _ h => h) (Or.inl ⟨by rfl, ?_⟩) ?_ ?_
  rotate_left
  · intro w'
    go_simp
    with_reducible rfl
  rotate_left
  · simp only [Act.put, nA, nB, nC, i64_w, i32_w]
    rfl
  refine pure_ (i := 24) (N := some 42) (v := ?_) (a' := ?_) #[true, true, true, true, true, true, true, true, true, true, true, true, true, true, true, true, true, true, true, true, true, true, true, true, true, false, false, false, false, false, false, false] rfl rfl (by kernel_rfl) (fun _ _ _ h => h) (Or.inl ⟨by rfl, ?_⟩) ?_ ?_
  rotate_left
  · intro w'
    go_simp
    with_reducible rfl
  rotate_left
  · simp only [Act.put, nA, nB, nC, i64_w, i32_w]
    rfl
  refine pure_ (i := 25) (N := some 43) (v := ?_) (a' := ?_) #[true, true, true, true, true, true, true, true, true, true, true, true, true, true, true, true, true, true, true, true, true, true, true, true, true, true, false, false, false, false, false, false] rfl rfl (by kernel_rfl) (fun _ _ _ h => h) (Or.inl ⟨by rfl, ?_⟩) ?_ ?_
  rotate_left
  · intro w'
    go_simp
    with_reducible rfl
  rotate_left
  · simp only [Act.put, nA, nB, nC, i64_w, i32_w]
    rfl
  refine pure_ (i := 26) (N := some 44) (v := ?_) (a' := ?_) #[true, true, true, true, true, true, true, true, true, true, true, true, true, true, true, true, true, true, true, true, true, true, true, true, true, true, true, false, false, false, false, false] rfl rfl (by kernel_rfl) (fun _ _ _ h => h) (Or.inl ⟨by rfl, ?_⟩) ?_ ?_
  rotate_left
  · intro w'
    go_simp
    with_reducible rfl
  rotate_left
  · simp only [Act.put, nA, nB, nC, i64_w, i32_w]
    rfl
  refine pure_ (i := 27) (N := some 45) (v := ?_) (a' := ?_) #[true, true, true, true, true, true, true, true, true, true, true, true, true, true, true, true, true, true, true, true, true, true, true, true, true, true, true, true, false, false, false, false] rfl rfl (by kernel_rfl) (fun _ _ _ h => h) (Or.inl ⟨by rfl, ?_⟩) ?_ ?_
  rotate_left
  · intro w'
    go_simp
    with_reducible rfl
  rotate_left
  · simp only [Act.put, nA, nB, nC, i64_w, i32_w]
    rfl
  refine last_ (i := 28) (N := none) #[true, true, true, true, true, true, true, true, true, true, true, true, true, true, true, true, true, true, true, true, true, true, true, true, true, true, true, true, true, false, false, false] rfl rfl (by kernel_rfl) (by decide) (fun K hK => ?_)
  refine skip_ (w1 := ?_) (by rfl) rfl ?_ ?_
  rotate_left
  · go_simp
    rfl
  try clear hHeld
  refine hK.out _ _ ?_
  clear hK K
  refine pure_ (i := 29) (N := some 46) (v := ?_) (a' := ?_) #[true, true, true, true, true, true, true, true, true, true, true, true, true, true, true, true, true, true, true, true, true, true, true, true, true, true, true, true, true, true, false, false] rfl rfl (by kernel_rfl) (fun _ _ _ h => h) (Or.inl ⟨by rfl, ?_⟩) ?_ ?_
  rotate_left
  · intro w'
    go_simp
    with_reducible rfl
  rotate_left
  · simp only [Act.put, nA, nB, nC, i64_w, i32_w]
    rfl
  refine pure_ (i := 30) (N := some 47) (v := ?_) (a' := ?_) #[true, true, true, true, true, true, true, true, true, true, true, true, true, true, true, true, true, true, true, true, true, true, true, true, true, true, true, true, true, true, true, false] rfl rfl (by kernel_rfl) (fun _ _ _ h => h) (Or.inl ⟨by rfl, ?_⟩) ?_ ?_
  rotate_left
  · intro w'
    go_simp
    with_reducible rfl
  rotate_left
  · simp only [Act.put, nA, nB, nC, i64_w, i32_w]
    rfl
  refine last_ (i := 31) (N := none) #[true, true, true, true, true, true, true, true, true, true, true, true, true, true, true, true, true, true, true, true, true, true, true, true, true, true, true, true, true, true, true, true] rfl rfl (by kernel_rfl) (by decide) (fun K hK => ?_)
  refine skip_ (w1 := ?_) (by rfl) rfl ?_ ?_
  rotate_left
  · go_simp
    rfl
  try clear hHeld
  refine hK.out _ _ ?_
  clear hK K
  try clear hHeld
  refine done_ (by kernel_rfl) ?_
  clear p0 p1 p8 p9 e4 e8 gi gj o5 o6 o7 m8 m9 m10 m11 n2 t8 t9 t10 t11 t12 f8 f9 f10 f11 f12
  obtain ⟨v, hv⟩ : ∃ v : HNode, v = { H.nd i with st := q.1, resp := q.2, done := true } := ⟨_, rfl⟩
  have kS : Keeps (fun k => k = R.na i) w4 (((((w4.setCell ⟨R.na i, 8, none⟩ (.int .i64 q.1.kind)).setCell ⟨R.na i, 9, none⟩ (.slice a4 q.1.L.length c4)).setCell ⟨R.na i, 10, none⟩ (.bool q.1.isSealed)).setCell ⟨R.na i, 11, none⟩ (.int .i64 q.1.to)).setCell ⟨R.na i, 12, none⟩ (.int .i64 q.2)) := (((((Keeps.refl (fun k => k = R.na i) w4).set (R.na i) 8 (.inl rfl) _).set (R.na i) 9 (.inl rfl) _).set (R.na i) 10 (.inl rfl) _).set (R.na i) 11 (.inl rfl) _).set (R.na i) 12 (.inl rfl) _
  have hN5 : Blk (((((w4.setCell ⟨R.na i, 8, none⟩ (.int .i64 q.1.kind)).setCell ⟨R.na i, 9, none⟩ (.slice a4 q.1.L.length c4)).setCell ⟨R.na i, 10, none⟩ (.bool q.1.isSealed)).setCell ⟨R.na i, 11, none⟩ (.int .i64 q.1.to)).setCell ⟨R.na i, 12, none⟩ (.int .i64 q.2)) (R.na i) (hnodeV n i v (.slice a4 q.1.L.length c4)) 102 := by
    subst hv; exact (((((hB4.set 8 _).set 9 _).set 10 _).set 11 _).set 12 _)
  have kB := ((Keeps.refl (fun k => k = R.na i) w).drew.drew.trans' (K4.mono fun k hk => hk.elim)).trans' kS
  have hsz4 : w.heap.size ≤ w4.heap.size := hb4.size
  have hni : R.na i < w.heap.size := hri
  have hbl : 0 < q.1.L.length → ∀ k, (Value.slice a4 q.1.L.length c4).ownBlock = some k → (R.own k = some .imm ∨ k < base) ∨ (w.heap.size ≤ k ∧ k < w4.heap.size) := by
    intro h0 k hk
    rcases own4 with e | ⟨o4, fr4⟩
    · rw [e] at hk
      injection e with _ e2 _
      exact .inl (HJ.out (by omega) k hk)
    · exact .inr ⟨fr4 k hk, own_lt o4 hk⟩
  have rd5 := rd_keeps rd4 kS (fun h0 k hk e => by
    rcases hbl h0 k hk with (g | g) | g
    · rw [e, ti] at g; simp at g
    · have := (h.fresh k (by rw [e, ti]; simp)).1; omega
    · omega)
  have hM5 := h.mach.keeps kB (fun k hk e => nN (e ▸ hk))
  have nPi : ¬ R.pa p = R.na i := fun e => by rw [← e, hx.tag] at ti; simp at ti
  have nEi : ¬ be = R.na i := fun e => by rw [← e, h.engT] at ti; simp at ti
  have hB5 := hx.blk.keeps kB nPi
  have hE5 := h.eng.keeps kB nEi
  have hsz5 : w4.heap.size ≤ _ := kS.size
  have HBL := Lib.hid hbl
  clear kS rd4 K4 hB4 hb4 own4 hbl hst HRJ hbi
  generalize (((((w4.setCell ⟨R.na i, 8, none⟩ (.int .i64 q.1.kind)).setCell ⟨R.na i, 9, none⟩ (.slice a4 q.1.L.length c4)).setCell ⟨R.na i, 10, none⟩ (.bool q.1.isSealed)).setCell ⟨R.na i, 11, none⟩ (.int .i64 q.1.to)).setCell ⟨R.na i, 12, none⟩ (.int .i64 q.2)) = w5 at *
  have p0 : w5.cell? ⟨R.pa p, 0, none⟩ = some (.pointer (some ⟨be, 0, none⟩)) := hB5.cell 0
  have p1 : w5.cell? ⟨R.pa p, 1, none⟩ = some (.int .i64 p) := hB5.cell 1
  have e4 : w5.cell? ⟨be, 4, none⟩ = some (.pointer (some ⟨R.bm, 0, none⟩)) := hE5.cell 4
  have n2 : w5.cell? ⟨R.na i, 4, none⟩ = some (.int .i64 cl) := by rw [hN5.cell 4]; simp [hnodeV, HCL.out]
  have HW := Lib.hid (he_write (w := w5) (H := H) p0 p1 e4 hM5 { H.setN i v with procs := upd H.procs p { H.procs p with ph := .number } } (c := cl) 1 hcb (by simp [HS.setN]) (fun j hj => by rw [HCL.out]; exact cval_done_upd ha (by rw [hv]) (by rw [hv]) _ _) nP nE)
  have hvs : v.st = q.1 := by rw [hv]
  have HV := Lib.hid hv
  clear hv
  go_wp2_with (go_at_call 77; refine HW.out.mono ?_; rintro e w6 ⟨rfl, ⟨s6, hM6⟩, hK6⟩; have hB6 := hB5.keeps hK6 nP; have hN6 := hN5.keeps hK6 nN; have c5 := hB6.cell 5; have f5 := hB6.frozen 5; have HC := Lib.hid c5; have HM6 := Lib.hid hM6; clear c5 hM6 p0 p1 e4 n2)
  go_wp2_with (go_at_call 78; refine (he_goes _ _ _ _ _ _ HC.out f5).mono ?_; rintro e w7 ⟨rfl, rfl⟩)
  go_ret2
  have nNp : R.na i ≠ R.pa p := fun e => nPi e.symm
  have k6 := kB.mono (G := fun k => hturnF R p k ∨ k = R.na i) (fun k hk => .inr hk)
  have k7 := (k6.trans' (hK6.mono fun k hk => .inl (.inl hk))).set (R.pa p) 5 (.inl (.inl (.inr rfl))) (bound 108 (R.pa p))
  have hbs : base ≤ w.heap.size := by have := h.fresh be (by rw [h.engT]; simp); omega
  have rd7 := rd_keeps (rd_keeps rd5 hK6 (fun h0 k hk e => by
      have e' := h.machT k e
      rcases HBL.out h0 k hk with (g | g) | g
      · rw [g] at e'; simp at e'
      · have := (h.fresh k (by rw [e']; simp)).1; omega
      · have := (h.fresh k (by rw [e']; simp)).2; omega)) ((Keeps.refl (fun k => k = R.pa p) w6).set (R.pa p) 5 (.inl rfl) (bound 108 (R.pa p))) (fun h0 k hk e => by
      rcases HBL.out h0 k hk with (g | g) | g
      · rw [e, hx.tag] at g; simp at g
      · have := (h.fresh k (by rw [e, hx.tag]; simp)).1; omega
      · have := (h.fresh k (by rw [e, hx.tag]; simp)).2; omega)
  have hv := HV.out
  subst hv
  refine ⟨rfl, _, h.turnN hp ha k7 _ (ownStep R.own w.heap.size w4.heap.size (.slice a4 q.1.L.length c4)) (fun k t hk => by rw [ownStep_old _ (h.fresh k (by rw [hk]; simp)).2]; exact hk) (fun k hk => ?_) s6 { H.procs p with ph := .number } (R.bef p) (HM6.out.other nP _) (hB6.set 5 _) _ (hN6.other nNp _) (by rw [hvs]; exact rd7) (fun h0 k hk => ?_), fun k hk => (by exact ownStep_old _ hk), k7.mono fun k hk => ?_⟩
  · unfold ownStep at hk
    split at hk
    · rename_i g
      have := hK6.size
      exact ⟨by omega, by have h1 := g.2.2; simp; omega⟩
    · have := h.fresh k hk
      have := hK6.size
      exact ⟨by omega, by simp; omega⟩
  · rw [hvs] at h0
    rcases HBL.out h0 k hk with (g | g) | g
    · left; rw [ownStep_old _ (h.fresh k (by rw [g]; simp)).2]; exact g
    · exact .inr g
    · exact .inl (ownStep_new g.1 g.2 hk)
  · rcases hk with (hk | rfl) | rfl
    · rw [h.machT k hk]; simp
    · rw [hx.tag]; simp
    · rw [ti]; simp
end Go.Proofs.Ytjfenjnnpikkdaa
