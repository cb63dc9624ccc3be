/-
  Package files: Append.
-/
import Derived.Test.YtpckjinlopmbcaaFsM8
import Derived.Test.YtpckjinlopmbcaaWLast
import Derived.StillTailTactics
namespace Go.Proofs.Ytpckjinlopmbcaa
set_option linter.unusedVariables false
set_option maxRecDepth 100000
set_option linter.unusedSimpArgs false
open Go.RowKit Go.Maps
open Go.Proofs.YtpckjinlopmbcaaW.PrintLast
section
variable {w w' : World} {base bd m : Nat} {fp fp' : Nat → Prop} {R : FRef} {S : FS}
theorem Small.moreC (h : Small S m) (ht : m + 1 ≤ 1000) (n : Int) : Small (S.more.change (.put n S.many)) (m + 1) := by
  have h1 := h.dirs
  have h2 := h.nowl
  have h3 := length_app S.now (Chg.put n S.many)
  refine ⟨ht, h.room, h.left, h.leftA, Nat.succ_le_succ h.many, ?_, ?_, fun f => ?_⟩
  · show S.kept.length + (S.waits ++ [Chg.put n S.many]).length ≤ m + 1
    rw [List.length_append]; simp; omega
  · show ((Chg.put n S.many).app S.now).length ≤ m + 1
    omega
  · show (updF S.files S.many ⟨[], 0⟩ f).b.length ≤ 300 * (m + 1)
    by_cases e : f = S.many
    · rw [e, updF_same]; exact Nat.zero_le _
    · rw [updF_ne _ _ e]; have := h.len f; omega
/-- The blocks that Append lays ahead. -/
def boxN (w : World) (n : Int) : World := w.alloc (.cells #[.int .i64 n] 3)
set_option maxHeartbeats 1600000 in
theorem fs_append_out (h : DRep w base fp bd R m S) (hm : m < 1000) (hw0 : base ≤ w.heap.size) {n : Int} {v : Value} {bs : List Int} (hn : (Lit.int .i64 n).wf = true) (hv : Rb w v bs) (hbl : bs.length ≤ 300) (hd : 0 < bs.length → ∀ k, v.ownBlock = some k → ¬ fp k) (ho : S.out = true) :
    Calls Try.prog 11 #[.pointer (some ⟨bd, 0, none⟩), .int .i64 n, v] w (FsPost w base fp bd (m + 1) (S.append n bs).1 (.int .i64 (S.append n bs).2)) := by
  have hb0 : Below w.heap.size w (w.alloc (.cells #[.int .i64 n] 3)) := (Below.refl _ _).alloc (Nat.le_refl _) _
  have h0 := h.toDRep0.all hw0 hb0
  have bx1 := Blk.new w #[.int .i64 n] 3
  have hs1 : (w.alloc (.cells #[.int .i64 n] 3)).heap.size = w.heap.size + 1 := by simp
  have c1 : (w.alloc (.cells #[.int .i64 n] 3)).cell? ⟨w.heap.size, 0, none⟩ = some (.int .i64 n) := bx1.cell 0
  have c4 : (w.alloc (.cells #[.int .i64 n] 3)).cell? ⟨bd, 4, none⟩ = some (.bool S.out) := h0.blk.cell 4
  have hsm := h.small
  have hD0 := h.keeps (F := fun _ => False) (Keeps.ofBelow hb0) (fun _ _ h => h)
  obtain ⟨va, vc, rfl⟩ : ∃ a c, v = .slice a bs.length c := by obtain ⟨a, c, e, _⟩ := id hv; exact ⟨a, c, e⟩
  rw [ho] at c4
  have e2 : S.append n bs = (S, 11) := by unfold FS.append; rw [if_pos ho]
  have FIN := Lib.hid (show FsPost w base fp bd (m + 1) S (.int .i64 11) (.returned (.int .i64 11)) (w.alloc (.cells #[.int .i64 n] 3)) from ⟨rfl, _, R, ⟨h0, hsm.mono (by omega) (by omega)⟩, fun q hq => fpAll_iff hq, Keeps.ofBelow hb0⟩)
  rw [e2]
  simp only
  clear h h0 hD0 hb0 e2 hv hd hsm
  go_enter Try.func11, Try.ntmps11
  go_wp2
  go_ret
  exact FIN.out
set_option maxHeartbeats 1600000 in
theorem fs_append_may (h : DRep w base fp bd R m S) (hm : m < 1000) (hw0 : base ≤ w.heap.size) {n : Int} {v : Value} {bs : List Int} (hn : (Lit.int .i64 n).wf = true) (hv : Rb w v bs) (hbl : bs.length ≤ 300) (hd : 0 < bs.length → ∀ k, v.ownBlock = some k → ¬ fp k) (ho : S.out = false) (hmy : ¬ mayN n) :
    Calls Try.prog 11 #[.pointer (some ⟨bd, 0, none⟩), .int .i64 n, v] w (FsPost w base fp bd (m + 1) (S.append n bs).1 (.int .i64 (S.append n bs).2)) := by
  have hb0 : Below w.heap.size w (w.alloc (.cells #[.int .i64 n] 3)) := (Below.refl _ _).alloc (Nat.le_refl _) _
  have h0 := h.toDRep0.all hw0 hb0
  have bx1 := Blk.new w #[.int .i64 n] 3
  have hs1 : (w.alloc (.cells #[.int .i64 n] 3)).heap.size = w.heap.size + 1 := by simp
  have c1 : (w.alloc (.cells #[.int .i64 n] 3)).cell? ⟨w.heap.size, 0, none⟩ = some (.int .i64 n) := bx1.cell 0
  have c4 : (w.alloc (.cells #[.int .i64 n] 3)).cell? ⟨bd, 4, none⟩ = some (.bool S.out) := h0.blk.cell 4
  have hsm := h.small
  have hD0 := h.keeps (F := fun _ => False) (Keeps.ofBelow hb0) (fun _ _ h => h)
  obtain ⟨va, vc, rfl⟩ : ∃ a c, v = .slice a bs.length c := by obtain ⟨a, c, e, _⟩ := id hv; exact ⟨a, c, e⟩
  rw [ho] at c4
  have e2 : S.append n bs = (S, 1) := by unfold FS.append; rw [if_neg (by rw [ho]; simp), if_pos hmy]
  have FIN := Lib.hid (show FsPost w base fp bd (m + 1) S (.int .i64 1) (.returned (.int .i64 1)) (w.alloc (.cells #[.int .i64 n] 3)) from ⟨rfl, _, R, ⟨h0, hsm.mono (by omega) (by omega)⟩, fun q hq => fpAll_iff hq, Keeps.ofBelow hb0⟩)
  rw [e2]
  simp only
  have hM' : ∀ W, Calls Try.prog 28 #[.int .i64 n] W fun e w' => e = .returned (.bool false) ∧ w' = W := fun W => by have := fs_may W n; rw [decide_eq_false hmy] at this; exact this
  clear h h0 hD0 hb0 e2 hv hd hsm hmy
  go_enter Try.func11, Try.ntmps11
  go_wp2_with (first | (go_at_call 28; refine (hM' _).mono ?_; rintro e w2 ⟨rfl, rfl⟩) | go_in)
  go_ret
  exact FIN.out
set_option maxHeartbeats 1600000 in
theorem fs_append_room (h : DRep w base fp bd R m S) (hm : m < 1000) (hw0 : base ≤ w.heap.size) {n : Int} {v : Value} {bs : List Int} (hn : (Lit.int .i64 n).wf = true) (hv : Rb w v bs) (hbl : bs.length ≤ 300) (hd : 0 < bs.length → ∀ k, v.ownBlock = some k → ¬ fp k) (ho : S.out = false) (hmy : mayN n) (hr : S.room < S.used + bs.length) :
    Calls Try.prog 11 #[.pointer (some ⟨bd, 0, none⟩), .int .i64 n, v] w (FsPost w base fp bd (m + 1) (S.append n bs).1 (.int .i64 (S.append n bs).2)) := by
  have hb0 : Below w.heap.size w (w.alloc (.cells #[.int .i64 n] 3)) := (Below.refl _ _).alloc (Nat.le_refl _) _
  have h0 := h.toDRep0.all hw0 hb0
  have bx1 := Blk.new w #[.int .i64 n] 3
  have hs1 : (w.alloc (.cells #[.int .i64 n] 3)).heap.size = w.heap.size + 1 := by simp
  have c1 : (w.alloc (.cells #[.int .i64 n] 3)).cell? ⟨w.heap.size, 0, none⟩ = some (.int .i64 n) := bx1.cell 0
  have c4 : (w.alloc (.cells #[.int .i64 n] 3)).cell? ⟨bd, 4, none⟩ = some (.bool S.out) := h0.blk.cell 4
  have hsm := h.small
  have hD0 := h.keeps (F := fun _ => False) (Keeps.ofBelow hb0) (fun _ _ h => h)
  obtain ⟨va, vc, rfl⟩ : ∃ a c, v = .slice a bs.length c := by obtain ⟨a, c, e, _⟩ := id hv; exact ⟨a, c, e⟩
  rw [ho] at c4
  have e2 : S.append n bs = (S, 10) := by unfold FS.append; rw [if_neg (by rw [ho]; simp), if_neg (fun h => h hmy), if_pos hr]
  have FIN := Lib.hid (fun W (hb : Below w.heap.size w W) => show FsPost w base fp bd (m + 1) S (.int .i64 10) (.returned (.int .i64 10)) W from ⟨rfl, fp, R, ⟨h.toDRep0.keeps (F := fun _ => False) (Keeps.ofBelow hb) (fun _ _ h => h), hsm.mono (by omega) (by omega)⟩, fun q hq => Iff.rfl, Keeps.ofBelow hb⟩)
  rw [e2]
  simp only
  have hM' : ∀ W, Calls Try.prog 28 #[.int .i64 n] W fun e w' => e = .returned (.bool true) ∧ w' = W := fun W => by have := fs_may W n; rw [decide_eq_true hmy] at this; exact this
  have c0 : (w.alloc (.cells #[.int .i64 n] 3)).cell? ⟨bd, 0, none⟩ = some (.int .i64 S.room) := h0.blk.cell 0
  have HU := Lib.hid (fs_used hD0.drew)
  have hul := h.used_le
  generalize S.used = us at *
  have wz : IntKind.i64.wrap ((us : Int) + (bs.length : Int)) = (us : Int) + bs.length := IntWalk.i64_in _ (by omega)
  have dr : decide (S.room < (us : Int) + bs.length) = true := decide_eq_true hr
  have HB0 := Lib.hid hb0
  clear h h0 hD0 hb0 e2 hv hd hsm hmy hr
  go_enter Try.func11, Try.ntmps11
  go_wp2_with (first | (go_at_call 28; refine (hM' _).mono ?_; rintro e w2 ⟨rfl, rfl⟩) | go_in)
  refine start_ (n := 11) (S := fun w' => w'.cell? ⟨bd, 0, none⟩ = some (.int .i64 S.room)) (ds := []) #[false, false, false, false, false, false, false, false, false, false, false] (by kernel_rfl) rfl rfl (c0) (fun hHeld => ?_)
  refine pure_ (i := 0) (N := some 19) (v := ?_) (a' := ?_) #[true, false, false, false, false, false, false, false, false, false, false] rfl rfl (by kernel_rfl) (fun _ _ _ h => h) (Or.inl ⟨by rfl, ?_⟩) ?_ ?_
  rotate_left
  · intro w'
    go_simp
    with_reducible rfl
  rotate_left
  · simp only [Act.put, List.setIfInBounds_toArray, List.set_cons_zero, List.set_cons_succ, i64_w, i32_w]
    rfl
  refine pure_ (i := 2) (N := some 21) (v := ?_) (a' := ?_) #[true, false, true, false, false, false, false, false, false, false, false] rfl rfl (by kernel_rfl) (fun _ _ _ h => h) (Or.inl ⟨by rfl, ?_⟩) ?_ ?_
  rotate_left
  · intro w'
    go_simp
    with_reducible rfl
  rotate_left
  · simp only [Act.put, List.setIfInBounds_toArray, List.set_cons_zero, List.set_cons_succ, i64_w, i32_w]
    rfl
  refine pure_ (i := 3) (N := some 22) (v := ?_) (a' := ?_) #[true, false, true, true, false, false, false, false, false, false, false] rfl rfl (by kernel_rfl) (fun _ _ _ h => h) (Or.inl ⟨by rfl, ?_⟩) ?_ ?_
  rotate_left
  · intro w'
    go_simp
    with_reducible rfl
  rotate_left
  · simp only [Act.put, List.setIfInBounds_toArray, List.set_cons_zero, List.set_cons_succ, i64_w, i32_w]
    rfl
  refine pure_ (i := 5) (N := some 24) (v := ?_) (a' := ?_) #[true, false, true, true, false, true, false, false, false, false, false] rfl rfl (by kernel_rfl) (fun _ _ _ h => h) (Or.inl ⟨by rfl, ?_⟩) ?_ ?_
  rotate_left
  · intro w'
    go_simp
    with_reducible rfl
  rotate_left
  · simp only [Act.put, List.setIfInBounds_toArray, List.set_cons_zero, List.set_cons_succ, i64_w, i32_w]
    rfl
  refine pure_ (i := 6) (N := some 25) (v := ?_) (a' := ?_) #[true, false, true, true, false, true, true, false, false, false, false] rfl rfl (by kernel_rfl) (fun _ _ _ h => h) (Or.inl ⟨by rfl, ?_⟩) ?_ ?_
  rotate_left
  · intro w'
    go_simp
    with_reducible rfl
  rotate_left
  · simp only [Act.put, List.setIfInBounds_toArray, List.set_cons_zero, List.set_cons_succ, i64_w, i32_w]
    rfl
  refine pure_ (i := 7) (N := some 26) (v := ?_) (a' := ?_) #[true, false, true, true, false, true, true, true, false, false, false] rfl rfl (by kernel_rfl) (fun _ _ _ h => h) (Or.inl ⟨by rfl, ?_⟩) ?_ ?_
  rotate_left
  · intro w'
    go_simp
    with_reducible rfl
  rotate_left
  · simp only [Act.put, List.setIfInBounds_toArray, List.set_cons_zero, List.set_cons_succ, i64_w, i32_w]
    rfl
  refine take_ (i := 8) (N := some 27) (v := ?_) (a' := ?_) #[true, false, true, true, false, true, true, true, true, false, false] rfl rfl (by kernel_rfl) (fun _ _ _ h => h) (Or.inl ⟨by rfl, ?_⟩) hHeld ?_ ?_
  rotate_left
  · intro w' s0
    go_simp
    with_reducible rfl
  rotate_left
  · simp only [Act.put, List.setIfInBounds_toArray, List.set_cons_zero, List.set_cons_succ, i64_w, i32_w]
    rfl
  refine one_ (i := 1) (N := some 20) #[true, true, true, true, false, true, true, true, true, false, false] rfl rfl (by kernel_rfl) (by decide) (fun K hK => ?_)
  refine goes_ Try.func18 (by kernel_rfl) rfl #[.pointer (some ⟨bd, 0, none⟩)] (by rfl) rfl rfl (by simp only [List.map_toArray, List.map_cons, List.map_nil]; rfl) ?_
  with_reducible refine (HU.out).mono ?_
  rintro e w3 ⟨rfl, hb3⟩
  refine ⟨_, rfl, ?_⟩
  try clear hHeld
  refine hK.out _ _ (((Keeps.ofBelow (F := fun _ => False) hb3).cellSome (fun h => h) c0)) (fun hHeld => ?_)
  clear hK K
  refine norm_ (a' := ?_) ?_ ?_
  rotate_left
  · show Act.put _ (some 20) _ = _
    simp only [Act.put, List.setIfInBounds_toArray, List.set_cons_zero, List.set_cons_succ, i64_w, i32_w]
    rfl
  refine pure_ (i := 4) (N := some 23) (v := ?_) (a' := ?_) #[true, true, true, true, true, true, true, true, true, false, false] rfl rfl (by kernel_rfl) (fun _ _ _ h => h) (Or.inl ⟨by rfl, ?_⟩) ?_ ?_
  rotate_left
  · intro w'
    go_simp
    with_reducible rfl
  rotate_left
  · simp only [Act.put, List.setIfInBounds_toArray, List.set_cons_zero, List.set_cons_succ, i64_w, i32_w]
    rfl
  refine pure_ (i := 9) (N := some 28) (v := ?_) (a' := ?_) #[true, true, true, true, true, true, true, true, true, true, false] rfl rfl (by kernel_rfl) (fun _ _ _ h => h) (Or.inl ⟨by rfl, ?_⟩) ?_ ?_
  rotate_left
  · intro w'
    go_simp
    with_reducible rfl
  rotate_left
  · simp only [Act.put, List.setIfInBounds_toArray, List.set_cons_zero, List.set_cons_succ, i64_w, i32_w]
    rfl
  refine pure_ (i := 10) (N := some 18) (v := ?_) (a' := ?_) #[true, true, true, true, true, true, true, true, true, true, true] rfl rfl (by kernel_rfl) (fun _ _ _ h => h) (Or.inl ⟨by rfl, ?_⟩) ?_ ?_
  rotate_left
  · intro w'
    go_simp
    with_reducible rfl
  rotate_left
  · simp only [Act.put, List.setIfInBounds_toArray, List.set_cons_zero, List.set_cons_succ, i64_w, i32_w]
    rfl
  try clear hHeld
  refine done_ (by kernel_rfl) ?_
  go_wp2_with fail
  go_ret
  exact FIN.out _ (HB0.out.drew.trans (hb3.mono (by simp)))
theorem below_drewN {B : Nat} (h : Below B w w') (k : Nat) : Below B w (w'.drewN k) := ⟨h.os, h.tape, h.output, h.size, h.block⟩
theorem DRep0.drewN (h : DRep0 w base fp bd R S) (k : Nat) : DRep0 (w.drewN k) base fp bd R S := h.keeps (F := fun _ => False) ((Keeps.refl _ _).drewN k) (fun _ _ h => h)
set_option maxHeartbeats 1600000 in
theorem fs_append_there (h : DRep w base fp bd R m S) (hm : m < 1000) (hw0 : base ≤ w.heap.size) {n : Int} {v : Value} {bs : List Int} (hn : (Lit.int .i64 n).wf = true) (hv : Rb w v bs) (hbl : bs.length ≤ 300) (hd : 0 < bs.length → ∀ k, v.ownBlock = some k → ¬ fp k) (ho : S.out = false) (hmy : mayN n) (hr : ¬ S.room < S.used + bs.length) (ha : atD S.now n ≠ none) :
    Calls Try.prog 11 #[.pointer (some ⟨bd, 0, none⟩), .int .i64 n, v] w (FsPost w base fp bd (m + 1) (S.append n bs).1 (.int .i64 (S.append n bs).2)) := by
  have hb0 : Below w.heap.size w (w.alloc (.cells #[.int .i64 n] 3)) := (Below.refl _ _).alloc (Nat.le_refl _) _
  have h0 := h.toDRep0.all hw0 hb0
  have bx1 := Blk.new w #[.int .i64 n] 3
  have hs1 : (w.alloc (.cells #[.int .i64 n] 3)).heap.size = w.heap.size + 1 := by simp
  have c1 : (w.alloc (.cells #[.int .i64 n] 3)).cell? ⟨w.heap.size, 0, none⟩ = some (.int .i64 n) := bx1.cell 0
  have c4 : (w.alloc (.cells #[.int .i64 n] 3)).cell? ⟨bd, 4, none⟩ = some (.bool S.out) := h0.blk.cell 4
  have hsm := h.small
  have hD0 := h.keeps (F := fun _ => False) (Keeps.ofBelow hb0) (fun _ _ h => h)
  obtain ⟨va, vc, rfl⟩ : ∃ a c, v = .slice a bs.length c := by obtain ⟨a, c, e, _⟩ := id hv; exact ⟨a, c, e⟩
  rw [ho] at c4
  obtain ⟨f, hf⟩ := Option.ne_none_iff_exists'.1 ha
  have e2 : S.append n bs = ((S.setF f ⟨(S.files f).b ++ bs, (S.files f).kept⟩).did, 0) := by unfold FS.append; rw [if_neg (by rw [ho]; simp), if_neg (fun h => h hmy), if_neg hr]; unfold FS.mkF; rw [if_neg ha]; unfold FS.add FS.fid; rw [hf]; rfl
  rw [e2]
  simp only
  have hM' : ∀ W, Calls Try.prog 28 #[.int .i64 n] W fun e w' => e = .returned (.bool true) ∧ w' = W := fun W => by have := fs_may W n; rw [decide_eq_true hmy] at this; exact this
  have c0 : (w.alloc (.cells #[.int .i64 n] 3)).cell? ⟨bd, 0, none⟩ = some (.int .i64 S.room) := h0.blk.cell 0
  have HU := Lib.hid (fs_used hD0.drew)
  have hul := h.used_le
  generalize S.used = us at *
  have wz : IntKind.i64.wrap ((us : Int) + (bs.length : Int)) = (us : Int) + bs.length := IntWalk.i64_in _ (by omega)
  have dr : decide (S.room < (us : Int) + bs.length) = false := decide_eq_false hr
  have HB0 := Lib.hid hb0
  have HV := Lib.hid hv
  have HH := Lib.hid h
  have HD := Lib.hid hd
  have HS := Lib.hid hsm
  clear h h0 hD0 hb0 e2 hv hd hsm hmy hr hul
  go_enter Try.func11, Try.ntmps11
  go_wp2_with (first | (go_at_call 28; refine (hM' _).mono ?_; rintro e w2 ⟨rfl, rfl⟩) | go_in)
  refine start_ (n := 11) (S := fun w' => w'.cell? ⟨bd, 0, none⟩ = some (.int .i64 S.room)) (ds := []) #[false, false, false, false, false, false, false, false, false, false, false] (by kernel_rfl) rfl rfl (c0) (fun hHeld => ?_)
  refine pure_ (i := 0) (N := some 19) (v := ?_) (a' := ?_) #[true, false, false, false, false, false, false, false, false, false, false] rfl rfl (by kernel_rfl) (fun _ _ _ h => h) (Or.inl ⟨by rfl, ?_⟩) ?_ ?_
  rotate_left
  · intro w'
    go_simp
    with_reducible rfl
  rotate_left
  · simp only [Act.put, List.setIfInBounds_toArray, List.set_cons_zero, List.set_cons_succ, i64_w, i32_w]
    rfl
  refine pure_ (i := 2) (N := some 21) (v := ?_) (a' := ?_) #[true, false, true, false, false, false, false, false, false, false, false] rfl rfl (by kernel_rfl) (fun _ _ _ h => h) (Or.inl ⟨by rfl, ?_⟩) ?_ ?_
  rotate_left
  · intro w'
    go_simp
    with_reducible rfl
  rotate_left
  · simp only [Act.put, List.setIfInBounds_toArray, List.set_cons_zero, List.set_cons_succ, i64_w, i32_w]
    rfl
  refine pure_ (i := 3) (N := some 22) (v := ?_) (a' := ?_) #[true, false, true, true, false, false, false, false, false, false, false] rfl rfl (by kernel_rfl) (fun _ _ _ h => h) (Or.inl ⟨by rfl, ?_⟩) ?_ ?_
  rotate_left
  · intro w'
    go_simp
    with_reducible rfl
  rotate_left
  · simp only [Act.put, List.setIfInBounds_toArray, List.set_cons_zero, List.set_cons_succ, i64_w, i32_w]
    rfl
  refine pure_ (i := 5) (N := some 24) (v := ?_) (a' := ?_) #[true, false, true, true, false, true, false, false, false, false, false] rfl rfl (by kernel_rfl) (fun _ _ _ h => h) (Or.inl ⟨by rfl, ?_⟩) ?_ ?_
  rotate_left
  · intro w'
    go_simp
    with_reducible rfl
  rotate_left
  · simp only [Act.put, List.setIfInBounds_toArray, List.set_cons_zero, List.set_cons_succ, i64_w, i32_w]
    rfl
  refine pure_ (i := 6) (N := some 25) (v := ?_) (a' := ?_) #[true, false, true, true, false, true, true, false, false, false, false] rfl rfl (by kernel_rfl) (fun _ _ _ h => h) (Or.inl ⟨by rfl, ?_⟩) ?_ ?_
  rotate_left
  · intro w'
    go_simp
    with_reducible rfl
  rotate_left
  · simp only [Act.put, List.setIfInBounds_toArray, List.set_cons_zero, List.set_cons_succ, i64_w, i32_w]
    rfl
  refine pure_ (i := 7) (N := some 26) (v := ?_) (a' := ?_) #[true, false, true, true, false, true, true, true, false, false, false] rfl rfl (by kernel_rfl) (fun _ _ _ h => h) (Or.inl ⟨by rfl, ?_⟩) ?_ ?_
  rotate_left
  · intro w'
    go_simp
    with_reducible rfl
  rotate_left
  · simp only [Act.put, List.setIfInBounds_toArray, List.set_cons_zero, List.set_cons_succ, i64_w, i32_w]
    rfl
  refine take_ (i := 8) (N := some 27) (v := ?_) (a' := ?_) #[true, false, true, true, false, true, true, true, true, false, false] rfl rfl (by kernel_rfl) (fun _ _ _ h => h) (Or.inl ⟨by rfl, ?_⟩) hHeld ?_ ?_
  rotate_left
  · intro w' s0
    go_simp
    with_reducible rfl
  rotate_left
  · simp only [Act.put, List.setIfInBounds_toArray, List.set_cons_zero, List.set_cons_succ, i64_w, i32_w]
    rfl
  refine one_ (i := 1) (N := some 20) #[true, true, true, true, false, true, true, true, true, false, false] rfl rfl (by kernel_rfl) (by decide) (fun K hK => ?_)
  refine goes_ Try.func18 (by kernel_rfl) rfl #[.pointer (some ⟨bd, 0, none⟩)] (by rfl) rfl rfl (by simp only [List.map_toArray, List.map_cons, List.map_nil]; rfl) ?_
  with_reducible refine (HU.out).mono ?_
  rintro e w3 ⟨rfl, hb3⟩
  refine ⟨_, rfl, ?_⟩
  try clear hHeld
  refine hK.out _ _ (((Keeps.ofBelow (F := fun _ => False) hb3).cellSome (fun h => h) c0)) (fun hHeld => ?_)
  clear hK K
  refine norm_ (a' := ?_) ?_ ?_
  rotate_left
  · show Act.put _ (some 20) _ = _
    simp only [Act.put, List.setIfInBounds_toArray, List.set_cons_zero, List.set_cons_succ, i64_w, i32_w]
    rfl
  refine pure_ (i := 4) (N := some 23) (v := ?_) (a' := ?_) #[true, true, true, true, true, true, true, true, true, false, false] rfl rfl (by kernel_rfl) (fun _ _ _ h => h) (Or.inl ⟨by rfl, ?_⟩) ?_ ?_
  rotate_left
  · intro w'
    go_simp
    with_reducible rfl
  rotate_left
  · simp only [Act.put, List.setIfInBounds_toArray, List.set_cons_zero, List.set_cons_succ, i64_w, i32_w]
    rfl
  refine pure_ (i := 9) (N := some 28) (v := ?_) (a' := ?_) #[true, true, true, true, true, true, true, true, true, true, false] rfl rfl (by kernel_rfl) (fun _ _ _ h => h) (Or.inl ⟨by rfl, ?_⟩) ?_ ?_
  rotate_left
  · intro w'
    go_simp
    with_reducible rfl
  rotate_left
  · simp only [Act.put, List.setIfInBounds_toArray, List.set_cons_zero, List.set_cons_succ, i64_w, i32_w]
    rfl
  refine pure_ (i := 10) (N := some 18) (v := ?_) (a' := ?_) #[true, true, true, true, true, true, true, true, true, true, true] rfl rfl (by kernel_rfl) (fun _ _ _ h => h) (Or.inl ⟨by rfl, ?_⟩) ?_ ?_
  rotate_left
  · intro w'
    go_simp
    with_reducible rfl
  rotate_left
  · simp only [Act.put, List.setIfInBounds_toArray, List.set_cons_zero, List.set_cons_succ, i64_w, i32_w]
    rfl
  try clear hHeld
  refine done_ (by kernel_rfl) ?_
  have hb5 : Below w.heap.size w w3 := HB0.out.drew.trans (hb3.mono (by simp))
  obtain ⟨fp1, h5, hi5, hx5⟩ : ∃ fp1, DRep0 w3 base fp1 bd R S ∧ (∀ k, k < w.heap.size → (fp1 k ↔ fp k)) ∧ fp1 w.heap.size := ⟨_, HH.out.toDRep0.all hw0 hb5, fun k hk => fpAll_iff hk, .inr ⟨Nat.le_refl _, by have := bx1.drew.below hb3 (by simp); exact this.lt⟩⟩
  have k5 : Keeps fp w w3 := Keeps.ofBelow hb5
  have hz5 := hb5.size
  have bx5 := bx1.drew.below hb3 (by simp)
  clear c0 c1 c4 hb3 HU dr wz bx1 hb5
  generalize w3 = W at *
  have c1 : W.cell? ⟨w.heap.size, 0, none⟩ = some (.int .i64 n) := bx5.cell 0
  have c2 : W.cell? ⟨bd, 2, none⟩ = some (.map (some R.bn)) := h5.blk.cell 2
  have hlk : ∀ k, (Instr.lookup 57 (.map (some R.bn)) (.int .i64 n) false).run Try.prog (W.drewN k) = .ok (.pointer (some ⟨R.fb f, 0, none⟩)) (W.drewN k) := fun k => by
    have := look_dir (w := W.drewN k) (b := R.bn) (fb := R.fb) (l := S.now) h5.parts.now hn
    unfold ptrD at this
    rw [hf] at this
    exact this
  go_wp2_with fail
  go_quiet (fail)
  have h6 := h5.drewN nq
  have bx6 := bx5.drewN nq
  have k6 := k5.drewN nq
  have hz6 : w.heap.size ≤ (W.drewN nq).heap.size := hz5
  clear c1 c2 hlk h5 bx5 k5 hz5
  generalize W.drewN nq = W at *
  have h5 := h6
  have bx5 := bx6
  have k5 := k6
  have hz5 := hz6
  clear h6 bx6 k6 hz6
  go_wp2_with fail
  have c1 : W.cell? ⟨w.heap.size, 0, none⟩ = some (.int .i64 n) := bx5.cell 0
  have c2 : W.cell? ⟨bd, 2, none⟩ = some (.map (some R.bn)) := h5.blk.cell 2
  have hlk : ∀ k, (Instr.lookup 57 (.map (some R.bn)) (.int .i64 n) false).run Try.prog (W.drewN k) = .ok (.pointer (some ⟨R.fb f, 0, none⟩)) (W.drewN k) := fun k => by
    have := look_dir (w := W.drewN k) (b := R.bn) (fb := R.fb) (l := S.now) h5.parts.now hn
    unfold ptrD at this
    rw [hf] at this
    exact this
  go_wp2_with fail
  go_quiet (fail)
  have h6 := h5.drewN nq
  have bx6 := bx5.drewN nq
  have k6 := k5.drewN nq
  have hz6 : w.heap.size ≤ (W.drewN nq).heap.size := hz5
  clear c1 c2 hlk h5 bx5 k5 hz5
  generalize W.drewN nq = W at *
  have h5 := h6
  have bx5 := bx6
  have k5 := k6
  have hz5 := hz6
  clear h6 bx6 k6 hz6
  have hfl : f < S.many := h5.inv.lt _ (.inl (atD_some hf))
  have hBf := h5.parts.files.blk f hfl
  have hOf := h5.parts.files.own f hfl
  have c0 : W.cell? ⟨R.fb f, 0, none⟩ = some (R.fv f) := hBf.cell 0
  obtain ⟨fa, fc, efv⟩ := own_shape hOf
  have nfb : (R.fv f).ownBlock ≠ some (R.fb f) := own_blk_ne hOf hBf (by decide)
  have HT := Lib.hid (fun w2 v' => app_tail (m := m) (w2 := w2) (v' := v') h5 (HS.out.mono (m' := m + 1) (by omega) (by omega)) HH.out.fpd hw0 hz5 k5 hi5 hfl (bs := bs) (by have := HS.out.len f; rw [List.length_append]; omega))
  have HO := Lib.hid hOf
  have HV5 : Hid (Rb W (.slice va bs.length vc) bs) := Lib.hid (rb_keeps HV.out k5 HD.out)
  have HBf := Lib.hid hBf
  rw [efv] at c0
  have HL := Lib.hid (HS.out.len f : (S.files f).b.length ≤ _)
  clear h5 hBf hOf bx5
  go_wp2_with (first
    | (at_builtin; refine wpList_bapp rfl _ _ rfl (.slice fa (S.files f).b.length fc) _ rfl (by rw [← efv]; exact HO.out) (.slice va bs.length vc) bs rfl HV5.out (by have := HL.out; have := HS.out.top; omega) ?_; intro v' w2 hown g2 hat; rw [← efv] at g2 hat; have HT2 := HT.out w2 v' hown g2 hat; have hB2 := (g2.block (R.fb f) HBf.out.lt (fun e => nfb e.symm)).trans HBf.out; have c5 : w2.cell? ⟨R.fb f, 0, none⟩ = some (R.fv f) := Blk.cell hB2 0; have f5 : w2.frozen? ⟨R.fb f, 0, none⟩ = false := Blk.frozen hB2 0; obtain ⟨a6, c6, e6⟩ := own_shape hown; rw [List.length_append] at e6; subst e6)
    | (go_at_call 31; refine HT2.mono ?_; rintro e w4 ⟨rfl, hP⟩)
    | go_in)
  go_ret
  exact hP
set_option maxHeartbeats 1600000 in
theorem fs_append_none (h : DRep w base fp bd R m S) (hm : m < 1000) (hw0 : base ≤ w.heap.size) {n : Int} {v : Value} {bs : List Int} (hn : (Lit.int .i64 n).wf = true) (hv : Rb w v bs) (hbl : bs.length ≤ 300) (hd : 0 < bs.length → ∀ k, v.ownBlock = some k → ¬ fp k) (ho : S.out = false) (hmy : mayN n) (hr : ¬ S.room < S.used + bs.length) (hf : atD S.now n = none) :
    Calls Try.prog 11 #[.pointer (some ⟨bd, 0, none⟩), .int .i64 n, v] w (FsPost w base fp bd (m + 1) (S.append n bs).1 (.int .i64 (S.append n bs).2)) := by
  have hb0 : Below w.heap.size w (w.alloc (.cells #[.int .i64 n] 3)) := (Below.refl _ _).alloc (Nat.le_refl _) _
  have h0 := h.toDRep0.all hw0 hb0
  have bx1 := Blk.new w #[.int .i64 n] 3
  have hs1 : (w.alloc (.cells #[.int .i64 n] 3)).heap.size = w.heap.size + 1 := by simp
  have c1 : (w.alloc (.cells #[.int .i64 n] 3)).cell? ⟨w.heap.size, 0, none⟩ = some (.int .i64 n) := bx1.cell 0
  have c4 : (w.alloc (.cells #[.int .i64 n] 3)).cell? ⟨bd, 4, none⟩ = some (.bool S.out) := h0.blk.cell 4
  have hsm := h.small
  have hD0 := h.keeps (F := fun _ => False) (Keeps.ofBelow hb0) (fun _ _ h => h)
  obtain ⟨va, vc, rfl⟩ : ∃ a c, v = .slice a bs.length c := by obtain ⟨a, c, e, _⟩ := id hv; exact ⟨a, c, e⟩
  rw [ho] at c4
  obtain ⟨S1, hS1⟩ : ∃ S1, S1 = S.more.change (.put n S.many) := ⟨_, rfl⟩
  have hfs : atD S1.now n = some S.many := by rw [hS1]; exact (h.inv.now.put n S.many).at_ (mem_putD.2 (.inl rfl))
  have e2 : S.append n bs = ((S1.setF S.many ⟨(S1.files S.many).b ++ bs, (S1.files S.many).kept⟩).did, 0) := by
    unfold FS.append
    rw [if_neg (by rw [ho]; simp), if_neg (fun h => h hmy), if_neg hr]
    have e3 : S.mkF n = S1 := by unfold FS.mkF; rw [if_pos hf, hS1]; rfl
    rw [e3]
    unfold FS.add FS.fid
    rw [hfs]
    rfl
  have e4 : (S1.files S.many).b.length ≤ 300 * m := by rw [hS1]; show (updF S.files S.many ⟨[], 0⟩ S.many).b.length ≤ _; rw [updF_same]; exact Nat.zero_le _
  have hsm1 : Small S1 (m + 1) := hS1 ▸ h.small.moreC (by omega) n
  rw [e2]
  simp only
  have hM' : ∀ W, Calls Try.prog 28 #[.int .i64 n] W fun e w' => e = .returned (.bool true) ∧ w' = W := fun W => by have := fs_may W n; rw [decide_eq_true hmy] at this; exact this
  have c0 : (w.alloc (.cells #[.int .i64 n] 3)).cell? ⟨bd, 0, none⟩ = some (.int .i64 S.room) := h0.blk.cell 0
  have HU := Lib.hid (fs_used hD0.drew)
  have hul := h.used_le
  generalize S.used = us at *
  have wz : IntKind.i64.wrap ((us : Int) + (bs.length : Int)) = (us : Int) + bs.length := IntWalk.i64_in _ (by omega)
  have dr : decide (S.room < (us : Int) + bs.length) = false := decide_eq_false hr
  have HB0 := Lib.hid hb0
  have HV := Lib.hid hv
  have HH := Lib.hid h
  have HD := Lib.hid hd
  have HS := Lib.hid hsm
  have HS1 := Lib.hid hsm1
  clear h h0 hD0 hb0 e2 hv hd hsm hmy hr hul hsm1
  go_enter Try.func11, Try.ntmps11
  go_wp2_with (first | (go_at_call 28; refine (hM' _).mono ?_; rintro e w2 ⟨rfl, rfl⟩) | go_in)
  refine start_ (n := 11) (S := fun w' => w'.cell? ⟨bd, 0, none⟩ = some (.int .i64 S.room)) (ds := []) #[false, false, false, false, false, false, false, false, false, false, false] (by kernel_rfl) rfl rfl (c0) (fun hHeld => ?_)
  refine pure_ (i := 0) (N := some 19) (v := ?_) (a' := ?_) #[true, false, false, false, false, false, false, false, false, false, false] rfl rfl (by kernel_rfl) (fun _ _ _ h => h) (Or.inl ⟨by rfl, ?_⟩) ?_ ?_
  rotate_left
  · intro w'
    go_simp
    with_reducible rfl
  rotate_left
  · simp only [Act.put, List.setIfInBounds_toArray, List.set_cons_zero, List.set_cons_succ, i64_w, i32_w]
    rfl
  refine pure_ (i := 2) (N := some 21) (v := ?_) (a' := ?_) #[true, false, true, false, false, false, false, false, false, false, false] rfl rfl (by kernel_rfl) (fun _ _ _ h => h) (Or.inl ⟨by rfl, ?_⟩) ?_ ?_
  rotate_left
  · intro w'
    go_simp
    with_reducible rfl
  rotate_left
  · simp only [Act.put, List.setIfInBounds_toArray, List.set_cons_zero, List.set_cons_succ, i64_w, i32_w]
    rfl
  refine pure_ (i := 3) (N := some 22) (v := ?_) (a' := ?_) #[true, false, true, true, false, false, false, false, false, false, false] rfl rfl (by kernel_rfl) (fun _ _ _ h => h) (Or.inl ⟨by rfl, ?_⟩) ?_ ?_
  rotate_left
  · intro w'
    go_simp
    with_reducible rfl
  rotate_left
  · simp only [Act.put, List.setIfInBounds_toArray, List.set_cons_zero, List.set_cons_succ, i64_w, i32_w]
    rfl
  refine pure_ (i := 5) (N := some 24) (v := ?_) (a' := ?_) #[true, false, true, true, false, true, false, false, false, false, false] rfl rfl (by kernel_rfl) (fun _ _ _ h => h) (Or.inl ⟨by rfl, ?_⟩) ?_ ?_
  rotate_left
  · intro w'
    go_simp
    with_reducible rfl
  rotate_left
  · simp only [Act.put, List.setIfInBounds_toArray, List.set_cons_zero, List.set_cons_succ, i64_w, i32_w]
    rfl
  refine pure_ (i := 6) (N := some 25) (v := ?_) (a' := ?_) #[true, false, true, true, false, true, true, false, false, false, false] rfl rfl (by kernel_rfl) (fun _ _ _ h => h) (Or.inl ⟨by rfl, ?_⟩) ?_ ?_
  rotate_left
  · intro w'
    go_simp
    with_reducible rfl
  rotate_left
  · simp only [Act.put, List.setIfInBounds_toArray, List.set_cons_zero, List.set_cons_succ, i64_w, i32_w]
    rfl
  refine pure_ (i := 7) (N := some 26) (v := ?_) (a' := ?_) #[true, false, true, true, false, true, true, true, false, false, false] rfl rfl (by kernel_rfl) (fun _ _ _ h => h) (Or.inl ⟨by rfl, ?_⟩) ?_ ?_
  rotate_left
  · intro w'
    go_simp
    with_reducible rfl
  rotate_left
  · simp only [Act.put, List.setIfInBounds_toArray, List.set_cons_zero, List.set_cons_succ, i64_w, i32_w]
    rfl
  refine take_ (i := 8) (N := some 27) (v := ?_) (a' := ?_) #[true, false, true, true, false, true, true, true, true, false, false] rfl rfl (by kernel_rfl) (fun _ _ _ h => h) (Or.inl ⟨by rfl, ?_⟩) hHeld ?_ ?_
  rotate_left
  · intro w' s0
    go_simp
    with_reducible rfl
  rotate_left
  · simp only [Act.put, List.setIfInBounds_toArray, List.set_cons_zero, List.set_cons_succ, i64_w, i32_w]
    rfl
  refine one_ (i := 1) (N := some 20) #[true, true, true, true, false, true, true, true, true, false, false] rfl rfl (by kernel_rfl) (by decide) (fun K hK => ?_)
  refine goes_ Try.func18 (by kernel_rfl) rfl #[.pointer (some ⟨bd, 0, none⟩)] (by rfl) rfl rfl (by simp only [List.map_toArray, List.map_cons, List.map_nil]; rfl) ?_
  with_reducible refine (HU.out).mono ?_
  rintro e w3 ⟨rfl, hb3⟩
  refine ⟨_, rfl, ?_⟩
  try clear hHeld
  refine hK.out _ _ (((Keeps.ofBelow (F := fun _ => False) hb3).cellSome (fun h => h) c0)) (fun hHeld => ?_)
  clear hK K
  refine norm_ (a' := ?_) ?_ ?_
  rotate_left
  · show Act.put _ (some 20) _ = _
    simp only [Act.put, List.setIfInBounds_toArray, List.set_cons_zero, List.set_cons_succ, i64_w, i32_w]
    rfl
  refine pure_ (i := 4) (N := some 23) (v := ?_) (a' := ?_) #[true, true, true, true, true, true, true, true, true, false, false] rfl rfl (by kernel_rfl) (fun _ _ _ h => h) (Or.inl ⟨by rfl, ?_⟩) ?_ ?_
  rotate_left
  · intro w'
    go_simp
    with_reducible rfl
  rotate_left
  · simp only [Act.put, List.setIfInBounds_toArray, List.set_cons_zero, List.set_cons_succ, i64_w, i32_w]
    rfl
  refine pure_ (i := 9) (N := some 28) (v := ?_) (a' := ?_) #[true, true, true, true, true, true, true, true, true, true, false] rfl rfl (by kernel_rfl) (fun _ _ _ h => h) (Or.inl ⟨by rfl, ?_⟩) ?_ ?_
  rotate_left
  · intro w'
    go_simp
    with_reducible rfl
  rotate_left
  · simp only [Act.put, List.setIfInBounds_toArray, List.set_cons_zero, List.set_cons_succ, i64_w, i32_w]
    rfl
  refine pure_ (i := 10) (N := some 18) (v := ?_) (a' := ?_) #[true, true, true, true, true, true, true, true, true, true, true] rfl rfl (by kernel_rfl) (fun _ _ _ h => h) (Or.inl ⟨by rfl, ?_⟩) ?_ ?_
  rotate_left
  · intro w'
    go_simp
    with_reducible rfl
  rotate_left
  · simp only [Act.put, List.setIfInBounds_toArray, List.set_cons_zero, List.set_cons_succ, i64_w, i32_w]
    rfl
  try clear hHeld
  refine done_ (by kernel_rfl) ?_
  have hb5 : Below w.heap.size w w3 := HB0.out.drew.trans (hb3.mono (by simp))
  obtain ⟨fp1, h5, hi5, hx5⟩ : ∃ fp1, DRep0 w3 base fp1 bd R S ∧ (∀ k, k < w.heap.size → (fp1 k ↔ fp k)) ∧ fp1 w.heap.size := ⟨_, HH.out.toDRep0.all hw0 hb5, fun k hk => fpAll_iff hk, .inr ⟨Nat.le_refl _, by have := bx1.drew.below hb3 (by simp); exact this.lt⟩⟩
  have k5 : Keeps fp w w3 := Keeps.ofBelow hb5
  have hz5 := hb5.size
  have bx5 := bx1.drew.below hb3 (by simp)
  clear c0 c1 c4 hb3 HU dr wz bx1 hb5
  generalize w3 = W at *
  have c1 : W.cell? ⟨w.heap.size, 0, none⟩ = some (.int .i64 n) := bx5.cell 0
  have c2 : W.cell? ⟨bd, 2, none⟩ = some (.map (some R.bn)) := h5.blk.cell 2
  have hlk : ∀ k, (Instr.lookup 57 (.map (some R.bn)) (.int .i64 n) false).run Try.prog (W.drewN k) = .ok (.pointer none) (W.drewN k) := fun k => by
    have := look_dir (w := W.drewN k) (b := R.bn) (fb := R.fb) (l := S.now) h5.parts.now hn
    unfold ptrD at this
    rw [hf] at this
    exact this
  go_wp2_with fail
  go_quiet (fail)
  have h6 := h5.drewN nq
  have bx6 := bx5.drewN nq
  have k6 := k5.drewN nq
  have hz6 : w.heap.size ≤ (W.drewN nq).heap.size := hz5
  clear c1 c2 hlk h5 bx5 k5 hz5
  generalize W.drewN nq = W at *
  have h5 := h6
  have bx5 := bx6
  have k5 := k6
  have hz5 := hz6
  clear h6 bx6 k6 hz6
  have hzY : ((W.alloc (.cells #[.slice none 0 0, .int .i64 0] 64)).alloc (.cells #[.pointer (some ⟨W.heap.size, 0, none⟩)] 62)).heap.size = W.heap.size + 1 + 1 := by simp
  have kY : Keeps (fun _ => False) W ((W.alloc (.cells #[.slice none 0 0, .int .i64 0] 64)).alloc (.cells #[.pointer (some ⟨W.heap.size, 0, none⟩)] 62)) := ((Keeps.refl _ _).alloc _).alloc _
  have bf : Blk ((W.alloc (.cells #[.slice none 0 0, .int .i64 0] 64)).alloc (.cells #[.pointer (some ⟨W.heap.size, 0, none⟩)] 62)) W.heap.size #[.slice none 0 0, .int .i64 0] 64 := (Blk.new W _ _).alloc _
  have b1 : Blk ((W.alloc (.cells #[.slice none 0 0, .int .i64 0] 64)).alloc (.cells #[.pointer (some ⟨W.heap.size, 0, none⟩)] 62)) (W.heap.size + 1) #[.pointer (some ⟨W.heap.size, 0, none⟩)] 62 := by
    have := Blk.new (W.alloc (.cells #[.slice none 0 0, .int .i64 0] 64)) #[.pointer (some ⟨W.heap.size, 0, none⟩)] 62
    have hz : (W.alloc (.cells #[.slice none 0 0, .int .i64 0] 64)).heap.size = W.heap.size + 1 := by simp
    rw [hz] at this
    exact this
  have b2 := bx5.keeps kY (fun h => h)
  have h8 := h5.file (by omega) kY (Nat.le_refl _) bf
  have kY5 := k5.trans' (kY.mono (fun _ h => h.elim))
  have hfe : updN R.fb S.many W.heap.size S.many = W.heap.size := updN_same _ _ _
  have hC := fs_change_put h8 (by rw [hzY]; omega) (by have := HS.out.nowl; show S.now.length < _; omega) (by have := HS.out.dirs; have := HH.out.parts.waits.len; show R.wv.length < _; omega) (q1 := W.heap.size + 1) (q2 := w.heap.size) (f := S.many) (n := n) (by show Blk _ _ #[.pointer (some ⟨updN R.fb S.many W.heap.size S.many, 0, none⟩)] _; rw [hfe]; exact b1) b2 hn (.inr ⟨by omega, by omega⟩) (.inl hx5) (Nat.lt_succ_self S.many)
  have HK := Lib.hid (show Keeps fp w _ ∧ ∀ k, k < w.heap.size → (fpAll fp1 W ((W.alloc (.cells #[.slice none 0 0, .int .i64 0] 64)).alloc (.cells #[.pointer (some ⟨W.heap.size, 0, none⟩)] 62)) k ↔ fp k) from ⟨kY5, fun k hk => (fpAll_iff (by omega)).trans (hi5 k hk)⟩)
  have d4 := b2.cell 0
  simp only [List.getElem?_toArray, List.getElem?_cons_zero] at d4
  have HC := Lib.hid hC
  clear hC h8 kY kY5 bf b1 b2 h5 bx5 k5 hi5 hx5
  go_wp2_with (first
    | (go_at_call 29; refine HC.out.mono ?_; rintro e w8 ⟨rfl, vw', hD8, kD8⟩)
    | go_in)
  have bx5 : Blk w8 w.heap.size #[.int .i64 n] 3 := by
    obtain ⟨u, hu, hr⟩ := hD8.parts.waits.rep S.waits.length (.put n S.many) (by show (S.waits ++ [_])[S.waits.length]? = _; rw [List.getElem?_append_right (Nat.le_refl _)]; simp)
    have hwl := HH.out.parts.waits.len
    have hu' : (R.wv ++ [Value.func (.func 30) #[] #[.pointer (some ⟨W.heap.size + 1, 0, none⟩), .pointer (some ⟨w.heap.size, 0, none⟩)]])[S.waits.length]? = some u := hu
    rw [List.getElem?_append_right (by omega), hwl] at hu'
    simp at hu'
    subst hu'
    obtain ⟨q1, q2, e, -, b2, -⟩ := hr
    simp at e
    rw [e.2]
    exact b2
  obtain ⟨R1, fp2, h5, hi5, k5, hz5⟩ : ∃ R1 fp2, DRep0 w8 base fp2 bd R1 S1 ∧ (∀ k, k < w.heap.size → (fp2 k ↔ fp k)) ∧ Keeps fp w w8 ∧ w.heap.size ≤ w8.heap.size := by
    obtain ⟨hk1, hk2⟩ := HK.out
    have hsz := kD8.size
    refine ⟨_, _, hS1 ▸ hD8, fun k hk => (fpAll_iff (by omega)).trans (hk2 k hk), hk1.trans kD8 (fun q hq => ?_), by omega⟩
    by_cases hlt : q < w.heap.size
    · exact .inl ((hk2 q hlt).1 hq)
    · exact .inr (by omega)
  clear hD8 kD8 d4 HC HK hfe hzY hf hS1
  have hf := hfs
  generalize w8 = W at *
  have c1 : W.cell? ⟨w.heap.size, 0, none⟩ = some (.int .i64 n) := bx5.cell 0
  have c2 : W.cell? ⟨bd, 2, none⟩ = some (.map (some R1.bn)) := h5.blk.cell 2
  have hlk : ∀ k, (Instr.lookup 57 (.map (some R1.bn)) (.int .i64 n) false).run Try.prog (W.drewN k) = .ok (.pointer (some ⟨R1.fb S.many, 0, none⟩)) (W.drewN k) := fun k => by
    have := look_dir (w := W.drewN k) (b := R1.bn) (fb := R1.fb) (l := S1.now) h5.parts.now hn
    unfold ptrD at this
    rw [hf] at this
    exact this
  go_wp2_with fail
  go_quiet (fail)
  have h6 := h5.drewN nq
  have bx6 := bx5.drewN nq
  have k6 := k5.drewN nq
  have hz6 : w.heap.size ≤ (W.drewN nq).heap.size := hz5
  clear c1 c2 hlk h5 bx5 k5 hz5
  generalize W.drewN nq = W at *
  have h5 := h6
  have bx5 := bx6
  have k5 := k6
  have hz5 := hz6
  clear h6 bx6 k6 hz6
  have hfl : S.many < S1.many := h5.inv.lt _ (.inl (atD_some hf))
  have hBf := h5.parts.files.blk S.many hfl
  have hOf := h5.parts.files.own S.many hfl
  have c0 : W.cell? ⟨R1.fb S.many, 0, none⟩ = some (R1.fv S.many) := hBf.cell 0
  obtain ⟨fa, fc, efv⟩ := own_shape hOf
  have nfb : (R1.fv S.many).ownBlock ≠ some (R1.fb S.many) := own_blk_ne hOf hBf (by decide)
  have HT := Lib.hid (fun w2 v' => app_tail (m := m) (w2 := w2) (v' := v') h5 HS1.out HH.out.fpd hw0 hz5 k5 hi5 hfl (bs := bs) (by have := e4; rw [List.length_append]; omega))
  have HO := Lib.hid hOf
  have HV5 : Hid (Rb W (.slice va bs.length vc) bs) := Lib.hid (rb_keeps HV.out k5 HD.out)
  have HBf := Lib.hid hBf
  rw [efv] at c0
  have HL := Lib.hid (e4 : (S1.files S.many).b.length ≤ _)
  clear h5 hBf hOf bx5
  go_wp2_with (first
    | (at_builtin; refine wpList_bapp rfl _ _ rfl (.slice fa (S1.files S.many).b.length fc) _ rfl (by rw [← efv]; exact HO.out) (.slice va bs.length vc) bs rfl HV5.out (by have := HL.out; have := HS.out.top; omega) ?_; intro v' w2 hown g2 hat; rw [← efv] at g2 hat; have HT2 := HT.out w2 v' hown g2 hat; have hB2 := (g2.block (R1.fb S.many) HBf.out.lt (fun e => nfb e.symm)).trans HBf.out; have c5 : w2.cell? ⟨R1.fb S.many, 0, none⟩ = some (R1.fv S.many) := Blk.cell hB2 0; have f5 : w2.frozen? ⟨R1.fb S.many, 0, none⟩ = false := Blk.frozen hB2 0; obtain ⟨a6, c6, e6⟩ := own_shape hown; rw [List.length_append] at e6; subst e6)
    | (go_at_call 31; refine HT2.mono ?_; rintro e w4 ⟨rfl, hP⟩)
    | go_in)
  go_ret
  exact hP
theorem fs_append (h : DRep w base fp bd R m S) (hm : m < 1000) (hw0 : base ≤ w.heap.size) {n : Int} {v : Value} {bs : List Int} (hn : (Lit.int .i64 n).wf = true) (hv : Rb w v bs) (hbl : bs.length ≤ 300) (hd : 0 < bs.length → ∀ k, v.ownBlock = some k → ¬ fp k) :
    Calls Try.prog 11 #[.pointer (some ⟨bd, 0, none⟩), .int .i64 n, v] w (FsPost w base fp bd (m + 1) (S.append n bs).1 (.int .i64 (S.append n bs).2)) := by
  cases ho : S.out with
  | true => exact fs_append_out h hm hw0 hn hv hbl hd ho
  | false =>
    by_cases hmy : mayN n
    · by_cases hr : S.room < S.used + bs.length
      · exact fs_append_room h hm hw0 hn hv hbl hd ho hmy hr
      · by_cases ha : atD S.now n = none
        · exact fs_append_none h hm hw0 hn hv hbl hd ho hmy hr ha
        · exact fs_append_there h hm hw0 hn hv hbl hd ho hmy hr ha
    · exact fs_append_may h hm hw0 hn hv hbl hd ho hmy
end
end Go.Proofs.Ytpckjinlopmbcaa
