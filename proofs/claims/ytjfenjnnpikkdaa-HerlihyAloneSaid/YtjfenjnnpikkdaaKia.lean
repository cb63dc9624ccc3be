/-
  Package herlihy: swap.
-/
import Derived.Test.YtjfenjnnpikkdaaKhc
set_option linter.unusedVariables false
set_option linter.unusedSimpArgs false
namespace Go.Proofs.Ytjfenjnnpikkdaa
set_option maxRecDepth 100000
open Go.RowKit
open Go.Proofs.YtjfenjnnpikkdaaW.PrintLast

theorem nextOf_snoc : ∀ (C : List Nat) (k a x y : Nat), C.Nodup → C[k]? = some a → C.length = k + 1 → nextOf (C ++ [x]) y = if y = a then x else nextOf C y := by
  intro C
  induction C with
  | nil => intro k a x y _ h; simp at h
  | cons c r ih =>
    intro k a x y hn hk hl
    rcases r with _ | ⟨b, r⟩
    · have : k = 0 := by simp at hl; omega
      subst this
      have : c = a := by simpa using hk
      subst this
      by_cases e : y = c
      · subst e; simp [nextOf]
      · have e' : ¬ c = y := fun h => e h.symm
        rw [if_neg e]; simp [nextOf, e']
    · obtain ⟨j, rfl⟩ : ∃ j, k = j + 1 := ⟨k - 1, by simp at hl; omega⟩
      have hk' : (b :: r)[j]? = some a := by simpa using hk
      have hn' := List.nodup_cons.1 hn
      show nextOf (c :: b :: (r ++ [x])) y = _
      rw [nextOf, show nextOf (c :: b :: r) y = if c = y then b else nextOf (b :: r) y from rfl]
      by_cases e : c = y
      · have ha : ¬ y = a := fun h => hn'.1 (by rw [e, h]; exact List.mem_of_getElem? hk')
        rw [if_pos e, if_neg ha, if_pos e]
      · rw [if_neg e, if_neg e]
        exact ih j a x y hn'.2 hk' (by simpa using hl)
theorem cval_next_upd {n a k x : Nat} {H : HS} (hn : H.chain.Nodup) (hk : H.chain[k]? = some a) (hlast : nextOf H.chain a = 0 → H.chain.length = k + 1) (pr : Nat → HProc) (j : Nat) :
    cval n { H with chain := if nextOf H.chain a = 0 then H.chain ++ [x] else H.chain, procs := pr } j = if j = ncell n a + 1 ∧ cval n H (ncell n a + 1) = 0 then (x : Int) else cval n H j := by
  rw [cval_next]
  by_cases h0 : nextOf H.chain a = 0
  · have hs := nextOf_snoc H.chain k a x
    have hl := hlast h0
    have h00 : ((nextOf H.chain a : Nat) : Int) = 0 := by rw [h0]; rfl
    have hc : ({ H with chain := if nextOf H.chain a = 0 then H.chain ++ [x] else H.chain, procs := pr } : HS).chain = H.chain ++ [x] := if_pos h0
    have ha : ({ H with chain := if nextOf H.chain a = 0 then H.chain ++ [x] else H.chain, procs := pr } : HS).ann = H.ann := rfl
    have hh : ({ H with chain := if nextOf H.chain a = 0 then H.chain ++ [x] else H.chain, procs := pr } : HS).head = H.head := rfl
    have hnd : ∀ i, HS.nd { H with chain := if nextOf H.chain a = 0 then H.chain ++ [x] else H.chain, procs := pr } i = H.nd i := fun i => rfl
    generalize ({ H with chain := if nextOf H.chain a = 0 then H.chain ++ [x] else H.chain, procs := pr } : HS) = H' at *
    unfold cval ncell
    rw [hc, ha, hh]
    by_cases h1 : j < n
    · have e : ¬ (j = 2 * n + 3 * a + 1 ∧ ((nextOf H.chain a : Nat) : Int) = 0) := fun e => by have := e.1; omega
      rw [if_pos h1, if_neg e, if_pos h1]
    · rw [if_neg h1, if_neg h1]
      by_cases h2 : j < 2 * n
      · have e : ¬ (j = 2 * n + 3 * a + 1 ∧ ((nextOf H.chain a : Nat) : Int) = 0) := fun e => by have := e.1; omega
        rw [if_pos h2, if_neg e, if_pos h2]
      · rw [if_neg h2, if_neg h2]
        by_cases h3 : (j - 2 * n) % 3 = 0
        · have e : ¬ (j = 2 * n + 3 * a + 1 ∧ ((nextOf H.chain a : Nat) : Int) = 0) := fun e => by have := e.1; omega
          rw [if_pos h3, if_neg e, if_pos h3, hnd]
        · rw [if_neg h3, if_neg h3]
          by_cases h4 : (j - 2 * n) % 3 = 1
          · rw [if_pos h4, if_pos h4, hs _ hn hk hl]
            by_cases e : (j - 2 * n) / 3 = a
            · rw [if_pos e, if_pos ⟨by omega, h00⟩]
            · rw [if_neg e, if_neg (fun g => e (by have := g.1; omega))]
          · have e : ¬ (j = 2 * n + 3 * a + 1 ∧ ((nextOf H.chain a : Nat) : Int) = 0) := fun e => by have := e.1; omega
            rw [if_neg h4, if_neg h4, if_neg e, hnd]
  · have e0 : ¬ (j = ncell n a + 1 ∧ ((nextOf H.chain a : Nat) : Int) = 0) := fun g => h0 (by have := g.2; omega)
    rw [if_neg e0]
    have hc : ({ H with chain := if nextOf H.chain a = 0 then H.chain ++ [x] else H.chain, procs := pr } : HS).chain = H.chain := if_neg h0
    have ha : ({ H with chain := if nextOf H.chain a = 0 then H.chain ++ [x] else H.chain, procs := pr } : HS).ann = H.ann := rfl
    have hh : ({ H with chain := if nextOf H.chain a = 0 then H.chain ++ [x] else H.chain, procs := pr } : HS).head = H.head := rfl
    have hnd : ∀ i, HS.nd { H with chain := if nextOf H.chain a = 0 then H.chain ++ [x] else H.chain, procs := pr } i = H.nd i := fun i => rfl
    generalize ({ H with chain := if nextOf H.chain a = 0 then H.chain ++ [x] else H.chain, procs := pr } : HS) = H' at *
    unfold cval
    rw [hc, ha, hh, hnd]
theorem HG.last {n : Nat} {s : St} {H : HS} (g : HG n s H) {a t : Nat} (h1 : HAt H a t) (c : nextOf H.chain a = 0) : H.chain.length = t - 1 + 1 := by
  have ht := h1.1
  apply Classical.byContradiction; intro hne
  have hlen := h1.len
  obtain ⟨y, hy⟩ : ∃ y, H.chain[t - 1 + 1]? = some y := ⟨_, List.getElem?_eq_getElem (by omega)⟩
  have e := nextOf_some g.nodup h1.2.1 hy
  rw [c] at e
  subst e
  have := g.inj hy g.c0; omega
set_option maxRecDepth 100000 in
set_option maxHeartbeats 1600000 in
theorem he_swap {w : World} {base be n p : Nat} {R : HRef} {s : St} {H : HS} (h : HRep w base be R n s H) (hp : p < n) (hph : (H.procs p).ph = .swap) (g : HG n s H) (hat : HAt H (H.procs p).at_ (H.procs p).turn) :
    Calls Try.prog 104 #[.pointer (some ⟨R.pa p, 0, none⟩)] w (HPost w base be R n s (H.step n p).1 (.tuple #[.int .i64 0, .bool false])) := by
  have ha : (H.procs p).at_ < H.nodes.length := g.clt _ (List.mem_of_getElem? hat.2.1)
  have e0 : (H.step n p).1 = ⟨H.nodes, (if nextOf H.chain (H.procs p).at_ = 0 then H.chain ++ [(H.procs p).prefer] else H.chain), H.ann, H.head, upd H.procs p { H.procs p with ph := .follow }⟩ := by unfold HS.step; rw [hph]; rfl
  rw [e0]
  have hx := h.proc p hp
  have p0 : w.cell? ⟨R.pa p, 0, none⟩ = some (.pointer (some ⟨be, 0, none⟩)) := hx.blk.cell 0
  have p1 : w.cell? ⟨R.pa p, 1, none⟩ = some (.int .i64 p) := hx.blk.cell 1
  have e4 : w.cell? ⟨be, 4, none⟩ = some (.pointer (some ⟨R.bm, 0, none⟩)) := h.eng.cell 4
  have e5 : w.cell? ⟨be, 5, none⟩ = some (.int .i64 0) := h.eng.cell 5
  have e6 : w.cell? ⟨be, 6, none⟩ = some (.int .i64 n) := h.eng.cell 6
  have nP := h.nP hp
  have nE := h.nE
  have hsm := h.small
  have hm := hmf
  have p9 : w.cell? ⟨R.pa p, 9, none⟩ = some (.int .i64 (H.procs p).at_) := hx.blk.cell 9
  have p11 : w.cell? ⟨R.pa p, 11, none⟩ = some (.int .i64 (H.procs p).prefer) := hx.blk.cell 11
  obtain ⟨gv, cv, e8, gi, gn, nG, nN⟩ := h.viewNode ha
  obtain ⟨cl, hcl⟩ : ∃ cl : Nat, cl = ncell n ((H.procs p).at_) + 1 := ⟨_, rfl⟩
  have n2 := gn 1 cl (by decide) hcl
  have hcb : cl < 2 * n + 3 * H.nodes.length := by rw [hcl]; exact ncell_lt ha (by decide)
  have x1 : (0 : Int) ≤ (((H.procs p).at_ : Nat) : Int) := by omega
  have x2 : (((H.procs p).at_ : Nat) : Int) < (H.nodes.length : Int) := by have := ha; omega
  clear gn
  have HW := Lib.hid (sw_h (w := w.drew) (H := H) h.mach.drew { H with chain := if nextOf H.chain (H.procs p).at_ = 0 then H.chain ++ [(H.procs p).prefer] else H.chain, procs := upd H.procs p { H.procs p with ph := .follow } } (c := cl) hcb p 0 (H.procs p).prefer rfl (fun j hj => by rw [hcl]; exact cval_next_upd g.nodup hat.2.1 (fun c => g.last hat c) _ j))
  clear hcl g hat e0
  generalize (if nextOf H.chain (H.procs p).at_ = 0 then H.chain ++ [(H.procs p).prefer] else H.chain) = ch at *
  go_enter Try.func104, Try.ntmps104
  go_wp2_with fail
  refine start_ (n := 32) (S := fun w' => w'.cell? ⟨R.pa p, 0, none⟩ = some (.pointer (some ⟨be, 0, none⟩)) ∧ w'.cell? ⟨R.pa p, 1, none⟩ = some (.int .i64 p) ∧ w'.cell? ⟨R.pa p, 9, none⟩ = some (.int .i64 (H.procs p).at_) ∧ w'.cell? ⟨R.pa p, 11, none⟩ = some (.int .i64 (H.procs p).prefer) ∧ w'.cell? ⟨be, 8, none⟩ = some (.slice (some ⟨gv, 0, none⟩) H.nodes.length cv) ∧ w'.cell? ⟨gv, (H.procs p).at_, none⟩ = some (.pointer (some ⟨R.na ((H.procs p).at_), 0, none⟩)) ∧ w'.cell? ⟨R.na ((H.procs p).at_), 3, none⟩ = some (.int .i64 cl) ∧ w'.cell? ⟨be, 4, none⟩ = some (.pointer (some ⟨R.bm, 0, none⟩))) (ds := []) #[false, false, false, false, false, false, false, false, false, false, false, false, false, false, false, false, false, false, false, false, false, false, false, false, false, false, false, false, false, false, false, false] (by kernel_rfl) rfl rfl ⟨p0, p1, p9, p11, e8, gi, n2, e4⟩ (fun hHeld => ?_)
  refine pure_ (i := 0) (N := some 4) (v := ?_) (a' := ?_) #[true, false, false, false, false, false, false, false, false, false, false, false, false, false, false, false, false, false, false, false, false, false, false, false, false, false, false, false, false, false, false, false] rfl rfl (by kernel_rfl) (fun _ _ _ h => h) (Or.inl ⟨by rfl, ?_⟩) ?_ ?_
  rotate_left
  · intro w'
    go_simp
    with_reducible rfl
  rotate_left
  · simp only [Act.put, nA, nB, nC, i64_w, i32_w]
    rfl
  refine pure_ (i := 1) (N := some 5) (v := ?_) (a' := ?_) #[true, true, false, false, false, false, false, false, false, false, false, false, false, false, false, false, false, false, false, false, false, false, false, false, false, false, false, false, false, false, false, false] rfl rfl (by kernel_rfl) (fun _ _ _ h => h) (Or.inl ⟨by rfl, ?_⟩) ?_ ?_
  rotate_left
  · intro w'
    go_simp
    with_reducible rfl
  rotate_left
  · simp only [Act.put, nA, nB, nC, i64_w, i32_w]
    rfl
  refine pure_ (i := 2) (N := some 6) (v := ?_) (a' := ?_) #[true, true, true, false, false, false, false, false, false, false, false, false, false, false, false, false, false, false, false, false, false, false, false, false, false, false, false, false, false, false, false, false] rfl rfl (by kernel_rfl) (fun _ _ _ h => h) (Or.inl ⟨by rfl, ?_⟩) ?_ ?_
  rotate_left
  · intro w'
    go_simp
    with_reducible rfl
  rotate_left
  · simp only [Act.put, nA, nB, nC, i64_w, i32_w]
    rfl
  refine pure_ (i := 7) (N := some 11) (v := ?_) (a' := ?_) #[true, true, true, false, false, false, false, true, false, false, false, false, false, false, false, false, false, false, false, false, false, false, false, false, false, false, false, false, false, false, false, false] rfl rfl (by kernel_rfl) (fun _ _ _ h => h) (Or.inl ⟨by rfl, ?_⟩) ?_ ?_
  rotate_left
  · intro w'
    go_simp
    with_reducible rfl
  rotate_left
  · simp only [Act.put, nA, nB, nC, i64_w, i32_w]
    rfl
  refine pure_ (i := 8) (N := some 12) (v := ?_) (a' := ?_) #[true, true, true, false, false, false, false, true, true, false, false, false, false, false, false, false, false, false, false, false, false, false, false, false, false, false, false, false, false, false, false, false] rfl rfl (by kernel_rfl) (fun _ _ _ h => h) (Or.inl ⟨by rfl, ?_⟩) ?_ ?_
  rotate_left
  · intro w'
    go_simp
    with_reducible rfl
  rotate_left
  · simp only [Act.put, nA, nB, nC, i64_w, i32_w]
    rfl
  refine pure_ (i := 9) (N := some 13) (v := ?_) (a' := ?_) #[true, true, true, false, false, false, false, true, true, true, false, false, false, false, false, false, false, false, false, false, false, false, false, false, false, false, false, false, false, false, false, false] rfl rfl (by kernel_rfl) (fun _ _ _ h => h) (Or.inl ⟨by rfl, ?_⟩) ?_ ?_
  rotate_left
  · intro w'
    go_simp
    with_reducible rfl
  rotate_left
  · simp only [Act.put, nA, nB, nC, i64_w, i32_w]
    rfl
  refine pure_ (i := 11) (N := some 15) (v := ?_) (a' := ?_) #[true, true, true, false, false, false, false, true, true, true, false, true, false, false, false, false, false, false, false, false, false, false, false, false, false, false, false, false, false, false, false, false] rfl rfl (by kernel_rfl) (fun _ _ _ h => h) (Or.inl ⟨by rfl, ?_⟩) ?_ ?_
  rotate_left
  · intro w'
    go_simp
    with_reducible rfl
  rotate_left
  · simp only [Act.put, nA, nB, nC, i64_w, i32_w]
    rfl
  refine pure_ (i := 12) (N := some 16) (v := ?_) (a' := ?_) #[true, true, true, false, false, false, false, true, true, true, false, true, true, false, false, false, false, false, false, false, false, false, false, false, false, false, false, false, false, false, false, false] rfl rfl (by kernel_rfl) (fun _ _ _ h => h) (Or.inl ⟨by rfl, ?_⟩) ?_ ?_
  rotate_left
  · intro w'
    go_simp
    with_reducible rfl
  rotate_left
  · simp only [Act.put, nA, nB, nC, i64_w, i32_w]
    rfl
  refine pure_ (i := 13) (N := some 17) (v := ?_) (a' := ?_) #[true, true, true, false, false, false, false, true, true, true, false, true, true, true, false, false, false, false, false, false, false, false, false, false, false, false, false, false, false, false, false, false] rfl rfl (by kernel_rfl) (fun _ _ _ h => h) (Or.inl ⟨by rfl, ?_⟩) ?_ ?_
  rotate_left
  · intro w'
    go_simp
    with_reducible rfl
  rotate_left
  · simp only [Act.put, nA, nB, nC, i64_w, i32_w]
    rfl
  refine pure_ (i := 18) (N := some 22) (v := ?_) (a' := ?_) #[true, true, true, false, false, false, false, true, true, true, false, true, true, true, false, false, false, false, true, false, false, false, false, false, false, false, false, false, false, false, false, false] rfl rfl (by kernel_rfl) (fun _ _ _ h => h) (Or.inl ⟨by rfl, ?_⟩) ?_ ?_
  rotate_left
  · intro w'
    go_simp
    with_reducible rfl
  rotate_left
  · simp only [Act.put, nA, nB, nC, i64_w, i32_w]
    rfl
  refine pure_ (i := 19) (N := some 23) (v := ?_) (a' := ?_) #[true, true, true, false, false, false, false, true, true, true, false, true, true, true, false, false, false, false, true, true, false, false, false, false, false, false, false, false, false, false, false, false] rfl rfl (by kernel_rfl) (fun _ _ _ h => h) (Or.inl ⟨by rfl, ?_⟩) ?_ ?_
  rotate_left
  · intro w'
    go_simp
    with_reducible rfl
  rotate_left
  · simp only [Act.put, nA, nB, nC, i64_w, i32_w]
    rfl
  refine pure_ (i := 20) (N := some 24) (v := ?_) (a' := ?_) #[true, true, true, false, false, false, false, true, true, true, false, true, true, true, false, false, false, false, true, true, true, false, false, false, false, false, false, false, false, false, false, false] rfl rfl (by kernel_rfl) (fun _ _ _ h => h) (Or.inl ⟨by rfl, ?_⟩) ?_ ?_
  rotate_left
  · intro w'
    go_simp
    with_reducible rfl
  rotate_left
  · simp only [Act.put, nA, nB, nC, i64_w, i32_w]
    rfl
  refine pure_ (i := 27) (N := some 31) (v := ?_) (a' := ?_) #[true, true, true, false, false, false, false, true, true, true, false, true, true, true, false, false, false, false, true, true, true, false, false, false, false, false, false, true, false, false, false, false] rfl rfl (by kernel_rfl) (fun _ _ _ h => h) (Or.inl ⟨by rfl, ?_⟩) ?_ ?_
  rotate_left
  · intro w'
    go_simp
    with_reducible rfl
  rotate_left
  · simp only [Act.put, nA, nB, nC, i64_w, i32_w]
    rfl
  refine pure_ (i := 28) (N := some 32) (v := ?_) (a' := ?_) #[true, true, true, false, false, false, false, true, true, true, false, true, true, true, false, false, false, false, true, true, true, false, false, false, false, false, false, true, true, false, false, false] rfl rfl (by kernel_rfl) (fun _ _ _ h => h) (Or.inl ⟨by rfl, ?_⟩) ?_ ?_
  rotate_left
  · intro w'
    go_simp
    with_reducible rfl
  rotate_left
  · simp only [Act.put, nA, nB, nC, i64_w, i32_w]
    rfl
  refine pure_ (i := 29) (N := some 33) (v := ?_) (a' := ?_) #[true, true, true, false, false, false, false, true, true, true, false, true, true, true, false, false, false, false, true, true, true, false, false, false, false, false, false, true, true, true, false, false] rfl rfl (by kernel_rfl) (fun _ _ _ h => h) (Or.inl ⟨by rfl, ?_⟩) ?_ ?_
  rotate_left
  · intro w'
    go_simp
    with_reducible rfl
  rotate_left
  · simp only [Act.put, nA, nB, nC, i64_w, i32_w]
    rfl
  refine take_ (i := 3) (N := some 7) (v := ?_) (a' := ?_) #[true, true, true, true, false, false, false, true, true, true, false, true, true, true, false, false, false, false, true, true, true, false, false, false, false, false, false, true, true, true, false, false] rfl rfl (by kernel_rfl) (fun _ _ _ h => h) (Or.inl ⟨by rfl, ?_⟩) hHeld ?_ ?_
  rotate_left
  · rintro w' ⟨s0, s1, s2, s3, s4, s5, s6, s7⟩
    go_simp
    with_reducible rfl
  rotate_left
  · simp only [Act.put, nA, nB, nC, i64_w, i32_w]
    rfl
  refine pure_ (i := 4) (N := some 8) (v := ?_) (a' := ?_) #[true, true, true, true, true, false, false, true, true, true, false, true, true, true, false, false, false, false, true, true, true, false, false, false, false, false, false, true, true, true, false, false] rfl rfl (by kernel_rfl) (fun _ _ _ h => h) (Or.inl ⟨by rfl, ?_⟩) ?_ ?_
  rotate_left
  · intro w'
    go_simp
    with_reducible rfl
  rotate_left
  · simp only [Act.put, nA, nB, nC, i64_w, i32_w]
    rfl
  refine pure_ (i := 5) (N := some 9) (v := ?_) (a' := ?_) #[true, true, true, true, true, true, false, true, true, true, false, true, true, true, false, false, false, false, true, true, true, false, false, false, false, false, false, true, true, true, false, false] rfl rfl (by kernel_rfl) (fun _ _ _ h => h) (Or.inl ⟨by rfl, ?_⟩) ?_ ?_
  rotate_left
  · intro w'
    go_simp
    with_reducible rfl
  rotate_left
  · simp only [Act.put, nA, nB, nC, i64_w, i32_w]
    rfl
  refine take_ (i := 6) (N := some 10) (v := ?_) (a' := ?_) #[true, true, true, true, true, true, true, true, true, true, false, true, true, true, false, false, false, false, true, true, true, false, false, false, false, false, false, true, true, true, false, false] rfl rfl (by kernel_rfl) (fun _ _ _ h => h) (Or.inl ⟨by rfl, ?_⟩) hHeld ?_ ?_
  rotate_left
  · rintro w' ⟨s0, s1, s2, s3, s4, s5, s6, s7⟩
    go_simp
    with_reducible rfl
  rotate_left
  · simp only [Act.put, nA, nB, nC, i64_w, i32_w]
    rfl
  refine take_ (i := 10) (N := some 14) (v := ?_) (a' := ?_) #[true, true, true, true, true, true, true, true, true, true, true, true, true, true, false, false, false, false, true, true, true, false, false, false, false, false, false, true, true, true, false, false] rfl rfl (by kernel_rfl) (fun _ _ _ h => h) (Or.inl ⟨by rfl, ?_⟩) hHeld ?_ ?_
  rotate_left
  · rintro w' ⟨s0, s1, s2, s3, s4, s5, s6, s7⟩
    go_simp
    with_reducible rfl
  rotate_left
  · simp only [Act.put, nA, nB, nC, i64_w, i32_w]
    rfl
  refine take_ (i := 14) (N := some 18) (v := ?_) (a' := ?_) #[true, true, true, true, true, true, true, true, true, true, true, true, true, true, true, false, false, false, true, true, true, false, false, false, false, false, false, true, true, true, false, false] rfl rfl (by kernel_rfl) (fun _ _ _ h => h) (Or.inl ⟨by rfl, ?_⟩) hHeld ?_ ?_
  rotate_left
  · rintro w' ⟨s0, s1, s2, s3, s4, s5, s6, s7⟩
    go_simp
    with_reducible rfl
  rotate_left
  · simp only [Act.put, nA, nB, nC, i64_w, i32_w]
    rfl
  refine pure_ (i := 15) (N := some 19) (v := ?_) (a' := ?_) #[true, true, true, true, true, true, true, true, true, true, true, true, true, true, true, true, false, false, true, true, true, false, false, false, false, false, false, true, true, true, false, false] rfl rfl (by kernel_rfl) (fun _ _ _ h => h) (Or.inl ⟨by rfl, ?_⟩) ?_ ?_
  rotate_left
  · intro w'
    go_simp
    with_reducible rfl
  rotate_left
  · simp only [Act.put, nA, nB, nC, i64_w, i32_w]
    rfl
  refine pure_ (i := 16) (N := some 20) (v := ?_) (a' := ?_) #[true, true, true, true, true, true, true, true, true, true, true, true, true, true, true, true, true, false, true, true, true, false, false, false, false, false, false, true, true, true, false, false] rfl rfl (by kernel_rfl) (fun _ _ _ h => h) (Or.inl ⟨by rfl, ?_⟩) ?_ ?_
  rotate_left
  · intro w'
    go_simp
    with_reducible rfl
  rotate_left
  · simp only [Act.put, nA, nB, nC, i64_w, i32_w]
    rfl
  refine take_ (i := 17) (N := some 21) (v := ?_) (a' := ?_) #[true, true, true, true, true, true, true, true, true, true, true, true, true, true, true, true, true, true, true, true, true, false, false, false, false, false, false, true, true, true, false, false] rfl rfl (by kernel_rfl) (fun _ _ _ h => h) (Or.inl ⟨by rfl, ?_⟩) hHeld ?_ ?_
  rotate_left
  · rintro w' ⟨s0, s1, s2, s3, s4, s5, s6, s7⟩
    go_simp
    with_reducible rfl
  rotate_left
  · simp only [Act.put, nA, nB, nC, i64_w, i32_w]
    rfl
  refine take_ (i := 21) (N := some 25) (v := ?_) (a' := ?_) #[true, true, true, true, true, true, true, true, true, true, true, true, true, true, true, true, true, true, true, true, true, true, false, false, false, false, false, true, true, true, false, false] rfl rfl (by kernel_rfl) (fun _ _ _ h => h) (Or.inl ⟨by rfl, ?_⟩) hHeld ?_ ?_
  rotate_left
  · rintro w' ⟨s0, s1, s2, s3, s4, s5, s6, s7⟩
    go_simp
    with_reducible rfl
  rotate_left
  · simp only [Act.put, nA, nB, nC, i64_w, i32_w]
    rfl
  refine pure_ (i := 22) (N := some 26) (v := ?_) (a' := ?_) #[true, true, true, true, true, true, true, true, true, true, true, true, true, true, true, true, true, true, true, true, true, true, true, false, false, false, false, true, true, true, false, false] rfl rfl (by kernel_rfl) (fun _ _ _ h => h) (Or.inl ⟨by rfl, ?_⟩) ?_ ?_
  rotate_left
  · intro w'
    go_simp
    with_reducible rfl
  rotate_left
  · simp only [Act.put, nA, nB, nC, i64_w, i32_w]
    rfl
  refine take_ (i := 23) (N := some 27) (v := ?_) (a' := ?_) #[true, true, true, true, true, true, true, true, true, true, true, true, true, true, true, true, true, true, true, true, true, true, true, true, false, false, false, true, true, true, false, false] rfl rfl (by kernel_rfl) (fun _ _ _ h => h) (Or.inl ⟨by rfl, ?_⟩) hHeld ?_ ?_
  rotate_left
  · rintro w' ⟨s0, s1, s2, s3, s4, s5, s6, s7⟩
    go_simp
    with_reducible rfl
  rotate_left
  · simp only [Act.put, nA, nB, nC, i64_w, i32_w]
    rfl
  refine pure_ (i := 24) (N := some 28) (v := ?_) (a' := ?_) #[true, true, true, true, true, true, true, true, true, true, true, true, true, true, true, true, true, true, true, true, true, true, true, true, true, false, false, true, true, true, false, false] rfl rfl (by kernel_rfl) (fun _ _ _ h => h) (Or.inl ⟨by rfl, ?_⟩) ?_ ?_
  rotate_left
  · intro w'
    go_simp
    with_reducible rfl
  rotate_left
  · simp only [Act.put, nA, nB, nC, i64_w, i32_w]
    rfl
  refine pure_ (i := 25) (N := some 29) (v := ?_) (a' := ?_) #[true, true, true, true, true, true, true, true, true, true, true, true, true, true, true, true, true, true, true, true, true, true, true, true, true, true, false, true, true, true, false, false] rfl rfl (by kernel_rfl) (fun _ _ _ h => h) (Or.inl ⟨by rfl, ?_⟩) ?_ ?_
  rotate_left
  · intro w'
    go_simp
    with_reducible rfl
  rotate_left
  · simp only [Act.put, nA, nB, nC, i64_w, i32_w]
    rfl
  refine take_ (i := 26) (N := some 30) (v := ?_) (a' := ?_) #[true, true, true, true, true, true, true, true, true, true, true, true, true, true, true, true, true, true, true, true, true, true, true, true, true, true, true, true, true, true, false, false] rfl rfl (by kernel_rfl) (fun _ _ _ h => h) (Or.inl ⟨by rfl, ?_⟩) hHeld ?_ ?_
  rotate_left
  · rintro w' ⟨s0, s1, s2, s3, s4, s5, s6, s7⟩
    go_simp
    with_reducible rfl
  rotate_left
  · simp only [Act.put, nA, nB, nC, i64_w, i32_w]
    rfl
  refine take_ (i := 30) (N := some 34) (v := ?_) (a' := ?_) #[true, true, true, true, true, true, true, true, true, true, true, true, true, true, true, true, true, true, true, true, true, true, true, true, true, true, true, true, true, true, true, false] rfl rfl (by kernel_rfl) (fun _ _ _ h => h) (Or.inl ⟨by rfl, ?_⟩) hHeld ?_ ?_
  rotate_left
  · rintro w' ⟨s0, s1, s2, s3, s4, s5, s6, s7⟩
    go_simp
    with_reducible rfl
  rotate_left
  · simp only [Act.put, nA, nB, nC, i64_w, i32_w]
    rfl
  refine one_ (i := 31) (N := some 35) #[true, true, true, true, true, true, true, true, true, true, true, true, true, true, true, true, true, true, true, true, true, true, true, true, true, true, true, true, true, true, true, true] rfl rfl (by kernel_rfl) (by decide) (fun K hK => ?_)
  refine goes_ Try.func94 (by kernel_rfl) rfl #[.pointer (some ⟨R.bm, 0, none⟩), .int .i64 p, .int .i64 cl, .int .i64 0, .int .i64 (H.procs p).prefer] (by rfl) rfl rfl (by simp only [List.map_toArray, List.map_cons, List.map_nil]; rfl) ?_
  with_reducible refine (HW.out).mono ?_
  rintro e w3 ⟨⟨sb, rfl⟩, ⟨s3, hM3⟩, hK3⟩
  refine ⟨_, rfl, ?_⟩
  try clear hHeld
  refine hK.out _ _ ⟨hK3.cellSome nP p0, hK3.cellSome nP p1, hK3.cellSome nP p9, hK3.cellSome nP p11, hK3.cellSome nE e8, hK3.cellSome nG gi, hK3.cellSome nN n2, hK3.cellSome nE e4⟩ (fun hHeld => ?_)
  clear hK K
  refine norm_ (a' := ?_) ?_ ?_
  rotate_left
  · show Act.put _ (some 35) _ = _
    simp only [Act.put, nA, nB, nC, i64_w, i32_w]
    rfl
  try clear hHeld
  refine done_ (by kernel_rfl) ?_
  clear p0 p1 p9 p11 e4 e5 e6 e8 gi n2
  have hB3 := hx.blk.drew.keeps hK3 nP
  have c5 := hB3.cell 5
  have f5 := hB3.frozen 5
  have HC := Lib.hid c5
  clear c5
  go_wp2_with (go_at_call 78; refine (he_goes _ _ _ _ _ _ HC.out f5).mono ?_; rintro e w5 ⟨rfl, rfl⟩)
  go_ret2
  refine h.fin hp (steps := s3) (((Keeps.refl _ _).drew.trans' (hK3.mono fun k hk => .inl hk)).set _ 5 (.inl (.inr rfl)) _) rfl (same_nodes H) (R.bef p) ?_ ?_ _
  · exact (hM3.other nP _)
  · exact hB3.set 5 _
end Go.Proofs.Ytjfenjnnpikkdaa
/- Package herlihy: finish. -/
namespace Go.Proofs.Ytjfenjnnpikkdaa
set_option maxRecDepth 100000
open Go.RowKit
open Go.Proofs.YtjfenjnnpikkdaaW.PrintLast

set_option maxRecDepth 100000 in
set_option maxHeartbeats 1600000 in
theorem he_finish {w : World} {base be n p : Nat} {R : HRef} {s : St} {H : HS} (h : HRep w base be R n s H) (hp : p < n) (hn : (H.procs p).node < H.nodes.length) (hd : (H.nd (H.procs p).node).done = true) :
    Calls Try.prog 101 #[.pointer (some ⟨R.pa p, 0, none⟩)] w fun e w' => e = .returned (.tuple #[.int .i64 (H.nd (H.procs p).node).resp, .bool true]) ∧ (∃ s', Mach w' R.bm R.vc R.vs ⟨cellsH n H, s'⟩) ∧ Keeps (machF R.bm R.vc R.vs) w w' := by
  have hx := h.proc p hp
  have p0 : w.cell? ⟨R.pa p, 0, none⟩ = some (.pointer (some ⟨be, 0, none⟩)) := hx.blk.cell 0
  have p1 : w.cell? ⟨R.pa p, 1, none⟩ = some (.int .i64 p) := hx.blk.cell 1
  have e4 : w.cell? ⟨be, 4, none⟩ = some (.pointer (some ⟨R.bm, 0, none⟩)) := h.eng.cell 4
  have e5 : w.cell? ⟨be, 5, none⟩ = some (.int .i64 0) := h.eng.cell 5
  have e6 : w.cell? ⟨be, 6, none⟩ = some (.int .i64 n) := h.eng.cell 6
  have nP := h.nP hp
  have nE := h.nE
  have hsm := h.small
  have hm := hmf
  have p2 : w.cell? ⟨R.pa p, 2, none⟩ = some (.int .i64 (H.procs p).node) := hx.blk.cell 2
  obtain ⟨gv, cv, e8, gi, gn, nG, nN⟩ := h.viewNode hn
  obtain ⟨cl, hcl⟩ : ∃ cl : Nat, cl = ncell n ((H.procs p).node) + 2 := ⟨_, rfl⟩
  have n2 := gn 2 cl (by decide) hcl
  have hcb : cl < 2 * n + 3 * H.nodes.length := by rw [hcl]; exact ncell_lt hn (by decide)
  have x1 : (0 : Int) ≤ (((H.procs p).node : Nat) : Int) := by omega
  have x2 : (((H.procs p).node : Nat) : Int) < (H.nodes.length : Int) := by have := hn; omega
  clear gn
  have r12 : w.cell? ⟨R.na (H.procs p).node, 12, none⟩ = some (.int .i64 (H.nd (H.procs p).node).resp) := by
    obtain ⟨_, vl, hb, _⟩ := h.node _ hn
    exact hb.cell 12
  have HW := Lib.hid (he_read (w := w.drew.drew) (H := H) p0 p1 e4 h.mach.drew.drew (c := cl) hcb nP nE)
  rw [hcl, cval_done, if_pos hd] at HW
  rw [← hcl] at HW
  clear hcl
  go_enter Try.func101, Try.ntmps101
  go_wp2_with fail
  refine start_ (n := 14) (S := fun w' => w'.cell? ⟨R.pa p, 0, none⟩ = some (.pointer (some ⟨be, 0, none⟩)) ∧ w'.cell? ⟨R.pa p, 2, none⟩ = some (.int .i64 (H.procs p).node) ∧ w'.cell? ⟨be, 8, none⟩ = some (.slice (some ⟨gv, 0, none⟩) H.nodes.length cv) ∧ w'.cell? ⟨gv, (H.procs p).node, none⟩ = some (.pointer (some ⟨R.na ((H.procs p).node), 0, none⟩))) (ds := []) #[false, false, false, false, false, false, false, false, false, false, false, false, false, false] (by kernel_rfl) rfl rfl ⟨p0, p2, e8, gi⟩ (fun hHeld => ?_)
  refine pure_ (i := 0) (N := some 5) (v := ?_) (a' := ?_) #[true, false, false, false, false, false, false, false, false, false, false, false, false, false] rfl rfl (by kernel_rfl) (fun _ _ _ h => h) (Or.inl ⟨by rfl, ?_⟩) ?_ ?_
  rotate_left
  · intro w'
    go_simp
    with_reducible rfl
  rotate_left
  · simp only [Act.put, nA, nB, nC, i64_w, i32_w]
    rfl
  refine pure_ (i := 1) (N := some 6) (v := ?_) (a' := ?_) #[true, true, false, false, false, false, false, false, false, false, false, false, false, false] rfl rfl (by kernel_rfl) (fun _ _ _ h => h) (Or.inl ⟨by rfl, ?_⟩) ?_ ?_
  rotate_left
  · intro w'
    go_simp
    with_reducible rfl
  rotate_left
  · simp only [Act.put, nA, nB, nC, i64_w, i32_w]
    rfl
  refine pure_ (i := 2) (N := some 7) (v := ?_) (a' := ?_) #[true, true, true, false, false, false, false, false, false, false, false, false, false, false] rfl rfl (by kernel_rfl) (fun _ _ _ h => h) (Or.inl ⟨by rfl, ?_⟩) ?_ ?_
  rotate_left
  · intro w'
    go_simp
    with_reducible rfl
  rotate_left
  · simp only [Act.put, nA, nB, nC, i64_w, i32_w]
    rfl
  refine pure_ (i := 7) (N := some 12) (v := ?_) (a' := ?_) #[true, true, true, false, false, false, false, true, false, false, false, false, false, false] rfl rfl (by kernel_rfl) (fun _ _ _ h => h) (Or.inl ⟨by rfl, ?_⟩) ?_ ?_
  rotate_left
  · intro w'
    go_simp
    with_reducible rfl
  rotate_left
  · simp only [Act.put, nA, nB, nC, i64_w, i32_w]
    rfl
  refine pure_ (i := 8) (N := some 13) (v := ?_) (a' := ?_) #[true, true, true, false, false, false, false, true, true, false, false, false, false, false] rfl rfl (by kernel_rfl) (fun _ _ _ h => h) (Or.inl ⟨by rfl, ?_⟩) ?_ ?_
  rotate_left
  · intro w'
    go_simp
    with_reducible rfl
  rotate_left
  · simp only [Act.put, nA, nB, nC, i64_w, i32_w]
    rfl
  refine pure_ (i := 9) (N := some 14) (v := ?_) (a' := ?_) #[true, true, true, false, false, false, false, true, true, true, false, false, false, false] rfl rfl (by kernel_rfl) (fun _ _ _ h => h) (Or.inl ⟨by rfl, ?_⟩) ?_ ?_
  rotate_left
  · intro w'
    go_simp
    with_reducible rfl
  rotate_left
  · simp only [Act.put, nA, nB, nC, i64_w, i32_w]
    rfl
  refine take_ (i := 3) (N := some 8) (v := ?_) (a' := ?_) #[true, true, true, true, false, false, false, true, true, true, false, false, false, false] rfl rfl (by kernel_rfl) (fun _ _ _ h => h) (Or.inl ⟨by rfl, ?_⟩) hHeld ?_ ?_
  rotate_left
  · rintro w' ⟨s0, s1, s2, s3⟩
    go_simp
    with_reducible rfl
  rotate_left
  · simp only [Act.put, nA, nB, nC, i64_w, i32_w]
    rfl
  refine pure_ (i := 4) (N := some 9) (v := ?_) (a' := ?_) #[true, true, true, true, true, false, false, true, true, true, false, false, false, false] rfl rfl (by kernel_rfl) (fun _ _ _ h => h) (Or.inl ⟨by rfl, ?_⟩) ?_ ?_
  rotate_left
  · intro w'
    go_simp
    with_reducible rfl
  rotate_left
  · simp only [Act.put, nA, nB, nC, i64_w, i32_w]
    rfl
  refine pure_ (i := 5) (N := some 10) (v := ?_) (a' := ?_) #[true, true, true, true, true, true, false, true, true, true, false, false, false, false] rfl rfl (by kernel_rfl) (fun _ _ _ h => h) (Or.inl ⟨by rfl, ?_⟩) ?_ ?_
  rotate_left
  · intro w'
    go_simp
    with_reducible rfl
  rotate_left
  · simp only [Act.put, nA, nB, nC, i64_w, i32_w]
    rfl
  refine take_ (i := 6) (N := some 11) (v := ?_) (a' := ?_) #[true, true, true, true, true, true, true, true, true, true, false, false, false, false] rfl rfl (by kernel_rfl) (fun _ _ _ h => h) (Or.inl ⟨by rfl, ?_⟩) hHeld ?_ ?_
  rotate_left
  · rintro w' ⟨s0, s1, s2, s3⟩
    go_simp
    with_reducible rfl
  rotate_left
  · simp only [Act.put, nA, nB, nC, i64_w, i32_w]
    rfl
  refine take_ (i := 10) (N := some 15) (v := ?_) (a' := ?_) #[true, true, true, true, true, true, true, true, true, true, true, false, false, false] rfl rfl (by kernel_rfl) (fun _ _ _ h => h) (Or.inl ⟨by rfl, ?_⟩) hHeld ?_ ?_
  rotate_left
  · rintro w' ⟨s0, s1, s2, s3⟩
    go_simp
    with_reducible rfl
  rotate_left
  · simp only [Act.put, nA, nB, nC, i64_w, i32_w]
    rfl
  refine pure_ (i := 11) (N := some 16) (v := ?_) (a' := ?_) #[true, true, true, true, true, true, true, true, true, true, true, true, false, false] rfl rfl (by kernel_rfl) (fun _ _ _ h => h) (Or.inl ⟨by rfl, ?_⟩) ?_ ?_
  rotate_left
  · intro w'
    go_simp
    with_reducible rfl
  rotate_left
  · simp only [Act.put, nA, nB, nC, i64_w, i32_w]
    rfl
  refine take_ (i := 12) (N := some 17) (v := ?_) (a' := ?_) #[true, true, true, true, true, true, true, true, true, true, true, true, true, false] rfl rfl (by kernel_rfl) (fun _ _ _ h => h) (Or.inl ⟨by rfl, ?_⟩) hHeld ?_ ?_
  rotate_left
  · rintro w' ⟨s0, s1, s2, s3⟩
    go_simp
    with_reducible rfl
  rotate_left
  · simp only [Act.put, nA, nB, nC, i64_w, i32_w]
    rfl
  refine pure_ (i := 13) (N := some 4) (v := ?_) (a' := ?_) #[true, true, true, true, true, true, true, true, true, true, true, true, true, true] rfl rfl (by kernel_rfl) (fun _ _ _ h => h) (Or.inl ⟨by rfl, ?_⟩) ?_ ?_
  rotate_left
  · intro w'
    go_simp
    with_reducible rfl
  rotate_left
  · simp only [Act.put, nA, nB, nC, i64_w, i32_w]
    rfl
  try clear hHeld
  refine done_ (by kernel_rfl) ?_
  go_wp2_with fail
  refine start_ (n := 13) (S := fun w' => w'.cell? ⟨R.na (H.procs p).node, 12, none⟩ = some (.int .i64 (H.nd (H.procs p).node).resp) ∧ w'.cell? ⟨R.na ((H.procs p).node), 4, none⟩ = some (.int .i64 cl)) (ds := []) #[false, false, false, false, false, false, false, false, false, false, false, false, false] (by kernel_rfl) rfl rfl ⟨r12, n2⟩ (fun hHeld => ?_)
  refine pure_ (i := 0) (N := some 18) (v := ?_) (a' := ?_) #[true, false, false, false, false, false, false, false, false, false, false, false, false] rfl rfl (by kernel_rfl) (fun _ _ _ h => h) (Or.inl ⟨by rfl, ?_⟩) ?_ ?_
  rotate_left
  · intro w'
    go_simp
    with_reducible rfl
  rotate_left
  · simp only [Act.put, nA, nB, nC, i64_w, i32_w]
    rfl
  refine pure_ (i := 1) (N := some 19) (v := ?_) (a' := ?_) #[true, true, false, false, false, false, false, false, false, false, false, false, false] rfl rfl (by kernel_rfl) (fun _ _ _ h => h) (Or.inl ⟨by rfl, ?_⟩) ?_ ?_
  rotate_left
  · intro w'
    go_simp
    with_reducible rfl
  rotate_left
  · simp only [Act.put, nA, nB, nC, i64_w, i32_w]
    rfl
  refine pure_ (i := 2) (N := some 20) (v := ?_) (a' := ?_) #[true, true, true, false, false, false, false, false, false, false, false, false, false] rfl rfl (by kernel_rfl) (fun _ _ _ h => h) (Or.inl ⟨by rfl, ?_⟩) ?_ ?_
  rotate_left
  · intro w'
    go_simp
    with_reducible rfl
  rotate_left
  · simp only [Act.put, nA, nB, nC, i64_w, i32_w]
    rfl
  refine pure_ (i := 4) (N := some 22) (v := ?_) (a' := ?_) #[true, true, true, false, true, false, false, false, false, false, false, false, false] rfl rfl (by kernel_rfl) (fun _ _ _ h => h) (Or.inl ⟨by rfl, ?_⟩) ?_ ?_
  rotate_left
  · intro w'
    go_simp
    with_reducible rfl
  rotate_left
  · simp only [Act.put, nA, nB, nC, i64_w, i32_w]
    rfl
  refine pure_ (i := 5) (N := some 23) (v := ?_) (a' := ?_) #[true, true, true, false, true, true, false, false, false, false, false, false, false] rfl rfl (by kernel_rfl) (fun _ _ _ h => h) (Or.inl ⟨by rfl, ?_⟩) ?_ ?_
  rotate_left
  · intro w'
    go_simp
    with_reducible rfl
  rotate_left
  · simp only [Act.put, nA, nB, nC, i64_w, i32_w]
    rfl
  refine pure_ (i := 6) (N := some 24) (v := ?_) (a' := ?_) #[true, true, true, false, true, true, true, false, false, false, false, false, false] rfl rfl (by kernel_rfl) (fun _ _ _ h => h) (Or.inl ⟨by rfl, ?_⟩) ?_ ?_
  rotate_left
  · intro w'
    go_simp
    with_reducible rfl
  rotate_left
  · simp only [Act.put, nA, nB, nC, i64_w, i32_w]
    rfl
  refine pure_ (i := 7) (N := some 25) (v := ?_) (a' := ?_) #[true, true, true, false, true, true, true, true, false, false, false, false, false] rfl rfl (by kernel_rfl) (fun _ _ _ h => h) (Or.inl ⟨by rfl, ?_⟩) ?_ ?_
  rotate_left
  · intro w'
    go_simp
    with_reducible rfl
  rotate_left
  · simp only [Act.put, nA, nB, nC, i64_w, i32_w]
    rfl
  refine take_ (i := 3) (N := some 21) (v := ?_) (a' := ?_) #[true, true, true, true, true, true, true, true, false, false, false, false, false] rfl rfl (by kernel_rfl) (fun _ _ _ h => h) (Or.inl ⟨by rfl, ?_⟩) hHeld ?_ ?_
  rotate_left
  · rintro w' ⟨s0, s1⟩
    go_simp
    with_reducible rfl
  rotate_left
  · simp only [Act.put, nA, nB, nC, i64_w, i32_w]
    rfl
  refine take_ (i := 8) (N := some 26) (v := ?_) (a' := ?_) #[true, true, true, true, true, true, true, true, true, false, false, false, false] rfl rfl (by kernel_rfl) (fun _ _ _ h => h) (Or.inl ⟨by rfl, ?_⟩) hHeld ?_ ?_
  rotate_left
  · rintro w' ⟨s0, s1⟩
    go_simp
    with_reducible rfl
  rotate_left
  · simp only [Act.put, nA, nB, nC, i64_w, i32_w]
    rfl
  refine one_ (i := 9) (N := some 27) #[true, true, true, true, true, true, true, true, true, true, false, false, false] rfl rfl (by kernel_rfl) (by decide) (fun K hK => ?_)
  refine goes_ Try.func88 (by kernel_rfl) rfl #[.pointer (some ⟨R.pa p, 0, none⟩), .int .i64 cl] (by rfl) rfl rfl (by simp only [List.map_toArray, List.map_cons, List.map_nil]; rfl) ?_
  with_reducible refine (HW.out).mono ?_
  rintro e w3 ⟨rfl, ⟨s3, hM3⟩, hK3⟩
  refine ⟨_, rfl, ?_⟩
  try clear hHeld
  refine hK.out _ _ ⟨hK3.cellSome nN r12, hK3.cellSome nN n2⟩ (fun hHeld => ?_)
  clear hK K
  refine norm_ (a' := ?_) ?_ ?_
  rotate_left
  · show Act.put _ (some 27) _ = _
    simp only [Act.put, nA, nB, nC, i64_w, i32_w]
    rfl
  refine pure_ (i := 10) (N := some 28) (v := ?_) (a' := ?_) #[true, true, true, true, true, true, true, true, true, true, true, false, false] rfl rfl (by kernel_rfl) (fun _ _ _ h => h) (Or.inl ⟨by rfl, ?_⟩) ?_ ?_
  rotate_left
  · intro w'
    go_simp
    with_reducible rfl
  rotate_left
  · simp only [Act.put, nA, nB, nC, i64_w, i32_w]
    rfl
  refine pure_ (i := 11) (N := some 2) (v := ?_) (a' := ?_) #[true, true, true, true, true, true, true, true, true, true, true, true, false] rfl rfl (by kernel_rfl) (fun _ _ _ h => h) (Or.inl ⟨by rfl, ?_⟩) ?_ ?_
  rotate_left
  · intro w'
    go_simp
    with_reducible rfl
  rotate_left
  · simp only [Act.put, nA, nB, nC, i64_w, i32_w]
    rfl
  refine pure_ (i := 12) (N := some 3) (v := ?_) (a' := ?_) #[true, true, true, true, true, true, true, true, true, true, true, true, true] rfl rfl (by kernel_rfl) (fun _ _ _ h => h) (Or.inl ⟨by rfl, ?_⟩) ?_ ?_
  rotate_left
  · intro w'
    go_simp
    with_reducible rfl
  rotate_left
  · simp only [Act.put, nA, nB, nC, i64_w, i32_w]
    rfl
  try clear hHeld
  refine done_ (by kernel_rfl) ?_
  clear p0 p1 p2 e4 e5 e6 e8 gi n2 r12
  have hB3 := hx.blk.drew.drew.keeps hK3 nP
  go_wp2_with fail
  go_ret2
  exact ⟨rfl, ⟨s3, hM3⟩, (Keeps.refl _ _).drew.drew.trans' hK3⟩
end Go.Proofs.Ytjfenjnnpikkdaa
