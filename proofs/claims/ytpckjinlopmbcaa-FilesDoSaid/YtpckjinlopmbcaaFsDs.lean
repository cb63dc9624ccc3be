/-
  A call on both disks.
-/
import Derived.Test.YtpckjinlopmbcaaFsT
import Derived.Test.YtpckjinlopmbcaaFsA
import Derived.Test.YtpckjinlopmbcaaFsF
namespace Go.Proofs.Ytpckjinlopmbcaa
set_option linter.unusedVariables false
set_option maxRecDepth 100000
set_option linter.unusedSimpArgs false
open Go.RowKit Go.Maps
open Go.Proofs.YtpckjinlopmbcaaW.PrintLast
/-- What does leaves. -/
def DoesP (Z : Nat → Prop) (W : World) (B bd br m : Nat) (e : Ending) (w' : World) : Prop :=
  e = .returned (.bool true) ∧ ∃ S' : FS, Two Z w' B bd br (m + 1) S' S' ∧ MayI S' ∧ Keeps (fun q => ¬ Z q ∧ B ≤ q) W w'
theorem Rd.keeps' {Z : Nat → Prop} {B : Nat} {w w' : World} {v : Value} {xs : List Int} (h : Rd w v xs) (k : Keeps (fun q => ¬ Z q ∧ B ≤ q) w w') (hB : 0 < xs.length → ∀ k, v.ownBlock = some k → k < B) : Rd w' v xs := by
  obtain ⟨a, c, rfl, h1, h2, h3⟩ := h
  refine ⟨a, c, rfl, h1, h2, fun hl => ?_⟩
  obtain ⟨b, o, e2, hlt, hc⟩ := h3 hl
  have hb : ¬ (¬ Z b ∧ B ≤ b) := fun h => by have := hB hl b (by rw [e2]; rfl); omega
  exact ⟨b, o, e2, Nat.lt_of_lt_of_le hlt k.size, fun i hi => k.cellSome hb (hc i hi)⟩
theorem Rb.keeps' {Z : Nat → Prop} {B : Nat} {w w' : World} {v : Value} {xs : List Int} (h : Rb w v xs) (k : Keeps (fun q => ¬ Z q ∧ B ≤ q) w w') (hB : 0 < xs.length → ∀ k, v.ownBlock = some k → k < B) : Rb w' v xs := rb_keeps h k (fun h0 b hb hf => by have := hB h0 b hb; omega)
section
variable {Z : Nat → Prop} {W : World} {B bd br m : Nat} {S : FS}
def boxZ (Z : Nat → Prop) (W : World) (q : Nat) : Prop := Z q ∨ (W.heap.size ≤ q ∧ q < W.heap.size + 1)
theorem does_end {w6 X : World} {S' : FS} (hT : Two (boxZ Z W) w6 B bd br (m + 1) S' S') (hM : MayI S') (kX : Keeps (fun _ => False) W X) (k : Keeps (fun q => ¬ boxZ Z W q ∧ B ≤ q) X w6) : DoesP Z W B bd br m (.returned (.bool true)) w6 :=
  ⟨rfl, S', hT.less (fun q hq => .inl hq), hM, (kX.mono (fun _ h => h.elim)).trans' (k.mono (fun q hq => ⟨fun hz => hq.1 (.inl hz), hq.2⟩))⟩
set_option maxHeartbeats 3200000 in
theorem f_does_sync (h : Two Z W B bd br m S S) (hM : MayI S) (hm : m < 1000) {nm nn : Int} {bs ks : List Int} {av ak : Option Addr} {cv ck : Nat} (n1 : (Lit.int .i64 nm).wf = true) (n2 : (Lit.int .i64 nn).wf = true) (hb : Rb W (.slice av bs.length cv) bs) (hk : Rd W (.slice ak ks.length ck) ks) (hbl : bs.length ≤ 300) (hkl : ks.length ≤ 300)
    (hbB : 0 < bs.length → ∀ k, (Value.slice av bs.length cv).ownBlock = some k → k < B) (hkB : 0 < ks.length → ∀ k, (Value.slice ak ks.length ck).ownBlock = some k → k < B)  :
    Calls Try.prog 23 #[.pointer (some ⟨bd, 0, none⟩), .pointer (some ⟨br, 0, none⟩), .agg #[.int .i64 2, .int .i64 nm, .int .i64 nn, .slice av bs.length cv, .slice ak ks.length ck]] W (DoesP Z W B bd br m) := by
  have hX0 : Below W.heap.size W (W.alloc (.cells #[.int .i64 2, .int .i64 nm, .int .i64 nn, .slice av bs.length cv, .slice ak ks.length ck] 40)) := (Below.refl _ _).alloc (Nat.le_refl _) _
  have hzX : (W.alloc (.cells #[.int .i64 2, .int .i64 nm, .int .i64 nn, .slice av bs.length cv, .slice ak ks.length ck] 40)).heap.size = W.heap.size + 1 := by simp
  have hT0 := h.below hX0
  rw [hzX] at hT0
  have hT : Two (boxZ Z W) (W.alloc (.cells #[.int .i64 2, .int .i64 nm, .int .i64 nn, .slice av bs.length cv, .slice ak ks.length ck] 40)) B bd br m S S := hT0
  have hTd : Two (boxZ Z W) (W.alloc (.cells #[.int .i64 2, .int .i64 nm, .int .i64 nn, .slice av bs.length cv, .slice ak ks.length ck] 40)).drew B bd br m S S := hT.keeps (F := fun _ => False) (Keeps.refl _ _).drew (fun _ h => h.elim)
  have kX : Keeps (fun _ => False) W (W.alloc (.cells #[.int .i64 2, .int .i64 nm, .int .i64 nn, .slice av bs.length cv, .slice ak ks.length ck] 40)) := (Keeps.refl _ _).alloc _
  have bx := Blk.new W #[.int .i64 2, .int .i64 nm, .int .i64 nn, .slice av bs.length cv, .slice ak ks.length ck] 40
  have c0 : (W.alloc (.cells #[.int .i64 2, .int .i64 nm, .int .i64 nn, .slice av bs.length cv, .slice ak ks.length ck] 40)).cell? ⟨W.heap.size, 0, none⟩ = some (.int .i64 2) := bx.cell 0
  have c1 : (W.alloc (.cells #[.int .i64 2, .int .i64 nm, .int .i64 nn, .slice av bs.length cv, .slice ak ks.length ck] 40)).cell? ⟨W.heap.size, 1, none⟩ = some (.int .i64 nm) := bx.cell 1
  have c2 : (W.alloc (.cells #[.int .i64 2, .int .i64 nm, .int .i64 nn, .slice av bs.length cv, .slice ak ks.length ck] 40)).cell? ⟨W.heap.size, 2, none⟩ = some (.int .i64 nn) := bx.cell 2
  have c3 : (W.alloc (.cells #[.int .i64 2, .int .i64 nm, .int .i64 nn, .slice av bs.length cv, .slice ak ks.length ck] 40)).cell? ⟨W.heap.size, 3, none⟩ = some (.slice av bs.length cv) := bx.cell 3
  have c4 : (W.alloc (.cells #[.int .i64 2, .int .i64 nm, .int .i64 nn, .slice av bs.length cv, .slice ak ks.length ck] 40)).cell? ⟨W.heap.size, 4, none⟩ = some (.slice ak ks.length ck) := bx.cell 4
  have nz : ¬ (¬ boxZ Z W W.heap.size ∧ B ≤ W.heap.size) := fun h => h.1 (.inr ⟨Nat.le_refl _, by omega⟩)
  have hI := h.disk.inv
  have hs := h.disk.small
  have hU := h.disk.used_le
  have hdoc := doc_of hI hs hM
  have hBs := h.1
  have hbX : Rb (W.alloc (.cells #[.int .i64 2, .int .i64 nm, .int .i64 nn, .slice av bs.length cv, .slice ak ks.length ck] 40)) (.slice av bs.length cv) bs := hb.below hX0 (Nat.le_refl _)
  have hkX : Rd (W.alloc (.cells #[.int .i64 2, .int .i64 nm, .int .i64 nn, .slice av bs.length cv, .slice ak ks.length ck] 40)) (.slice ak ks.length ck) ks := hk.below hX0 (Nat.le_refl _)
  have END := Lib.hid (fun w6 S' => does_end (Z := Z) (W := W) (B := B) (bd := bd) (br := br) (m := m) (S' := S') (w6 := w6) (X := W.alloc (.cells #[.int .i64 2, .int .i64 nm, .int .i64 nn, .slice av bs.length cv, .slice ak ks.length ck] 40)))
  have HT := Lib.hid hT
  have HTD := Lib.hid hTd
  have HKX := Lib.hid kX
  have HBX := Lib.hid bx
  have HRB := Lib.hid hbX
  have HRK := Lib.hid hkX
  have HI := Lib.hid hdoc
  have HS := Lib.hid hs
  have HMAY := Lib.hid hM
  have HINV := Lib.hid hI
  clear hT hTd kX bx hbX hkX hdoc hs hM hX0 hI
  have HA := Lib.hid (td_sync HTD.out hm (n := nm) n1)
  have HR := Lib.hid (fun w5 (h5 : Two (boxZ Z W) w5 B bd br (m + 1) (S.sync nm).1 S) => tr_sync h5 HI.out HS.out hm (n := nm) n1)
  clear h hT0 hb hk
  go_enter Try.func23, Try.ntmps23
  go_wp2_with fail
  refine start_ (n := 10) (S := fun w' => w'.cell? ⟨W.heap.size, 1, none⟩ = some (.int .i64 nm)) (ds := []) #[false, false, false, false, false, false, false, false, false, false] (by kernel_rfl) rfl rfl (c1) (fun hHeld => ?_)
  refine pure_ (i := 0) (N := some 69) (v := ?_) (a' := ?_) #[true, false, false, false, false, false, false, false, false, false] rfl rfl (by kernel_rfl) (fun _ _ _ h => h) (Or.inl ⟨by rfl, ?_⟩) ?_ ?_
  rotate_left
  · intro w'
    go_simp
    with_reducible rfl
  rotate_left
  · simp only [Act.put, List.setIfInBounds_toArray, List.set_cons_zero, List.set_cons_succ, i64_w, i32_w]
    rfl
  refine pure_ (i := 1) (N := some 70) (v := ?_) (a' := ?_) #[true, true, false, false, false, false, false, false, false, false] rfl rfl (by kernel_rfl) (fun _ _ _ h => h) (Or.inl ⟨by rfl, ?_⟩) ?_ ?_
  rotate_left
  · intro w'
    go_simp
    with_reducible rfl
  rotate_left
  · simp only [Act.put, List.setIfInBounds_toArray, List.set_cons_zero, List.set_cons_succ, i64_w, i32_w]
    rfl
  refine pure_ (i := 4) (N := some 73) (v := ?_) (a' := ?_) #[true, true, false, false, true, false, false, false, false, false] rfl rfl (by kernel_rfl) (fun _ _ _ h => h) (Or.inl ⟨by rfl, ?_⟩) ?_ ?_
  rotate_left
  · intro w'
    go_simp
    with_reducible rfl
  rotate_left
  · simp only [Act.put, List.setIfInBounds_toArray, List.set_cons_zero, List.set_cons_succ, i64_w, i32_w]
    rfl
  refine pure_ (i := 5) (N := some 74) (v := ?_) (a' := ?_) #[true, true, false, false, true, true, false, false, false, false] rfl rfl (by kernel_rfl) (fun _ _ _ h => h) (Or.inl ⟨by rfl, ?_⟩) ?_ ?_
  rotate_left
  · intro w'
    go_simp
    with_reducible rfl
  rotate_left
  · simp only [Act.put, List.setIfInBounds_toArray, List.set_cons_zero, List.set_cons_succ, i64_w, i32_w]
    rfl
  refine take_ (i := 2) (N := some 71) (v := ?_) (a' := ?_) #[true, true, true, false, true, true, false, false, false, false] rfl rfl (by kernel_rfl) (fun _ _ _ h => h) (Or.inl ⟨by rfl, ?_⟩) hHeld ?_ ?_
  rotate_left
  · intro w' s0
    go_simp
    with_reducible rfl
  rotate_left
  · simp only [Act.put, List.setIfInBounds_toArray, List.set_cons_zero, List.set_cons_succ, i64_w, i32_w]
    rfl
  refine take_ (i := 6) (N := some 75) (v := ?_) (a' := ?_) #[true, true, true, false, true, true, true, false, false, false] rfl rfl (by kernel_rfl) (fun _ _ _ h => h) (Or.inl ⟨by rfl, ?_⟩) hHeld ?_ ?_
  rotate_left
  · intro w' s0
    go_simp
    with_reducible rfl
  rotate_left
  · simp only [Act.put, List.setIfInBounds_toArray, List.set_cons_zero, List.set_cons_succ, i64_w, i32_w]
    rfl
  refine one_ (i := 3) (N := some 72) #[true, true, true, true, true, true, true, false, false, false] rfl rfl (by kernel_rfl) (by decide) (fun K hK => ?_)
  refine goes_ Try.func12 (by kernel_rfl) rfl #[.pointer (some ⟨bd, 0, none⟩), .int .i64 nm] (by rfl) rfl rfl (by simp only [List.map_toArray, List.map_cons, List.map_nil]; rfl) ?_
  with_reducible refine (HA.out).mono ?_
  rintro e w5 ⟨rfl, hT5, hK5⟩
  refine ⟨_, rfl, ?_⟩
  have HR5 := Lib.hid (HR.out w5 hT5)
  try clear hHeld
  refine hK.out _ _ ((hK5.cellSome nz c1)) (fun hHeld => ?_)
  clear hK K
  refine norm_ (a' := ?_) ?_ ?_
  rotate_left
  · show Act.put _ (some 72) _ = _
    simp only [Act.put, List.setIfInBounds_toArray, List.set_cons_zero, List.set_cons_succ, i64_w, i32_w]
    rfl
  refine one_ (i := 7) (N := some 76) #[true, true, true, true, true, true, true, true, false, false] rfl rfl (by kernel_rfl) (by decide) (fun K hK => ?_)
  refine goes_ Try.func43 (by kernel_rfl) rfl #[.pointer (some ⟨br, 0, none⟩), .int .i64 nm] (by rfl) rfl rfl (by simp only [List.map_toArray, List.map_cons, List.map_nil]; rfl) ?_
  with_reducible refine (HR5.out).mono ?_
  rintro e w6 ⟨rfl, hT6, hK6⟩
  refine ⟨_, rfl, ?_⟩
  try clear hHeld
  refine hK.out _ _ ((hK6.cellSome nz (hK5.cellSome nz c1))) (fun hHeld => ?_)
  clear hK K
  refine norm_ (a' := ?_) ?_ ?_
  rotate_left
  · show Act.put _ (some 76) _ = _
    simp only [Act.put, List.setIfInBounds_toArray, List.set_cons_zero, List.set_cons_succ, i64_w, i32_w]
    rfl
  refine pure_ (i := 8) (N := some 77) (v := ?_) (a' := ?_) #[true, true, true, true, true, true, true, true, true, false] rfl rfl (by kernel_rfl) (fun _ _ _ h => h) (Or.inl ⟨by rfl, ?_⟩) ?_ ?_
  rotate_left
  · intro w'
    go_simp
    with_reducible rfl
  rotate_left
  · simp only [Act.put, List.setIfInBounds_toArray, List.set_cons_zero, List.set_cons_succ, i64_w, i32_w]
    rfl
  refine pure_ (i := 9) (N := some 6) (v := ?_) (a' := ?_) #[true, true, true, true, true, true, true, true, true, true] rfl rfl (by kernel_rfl) (fun _ _ _ h => h) (Or.inl ⟨by rfl, ?_⟩) ?_ ?_
  rotate_left
  · intro w'
    go_simp
    with_reducible rfl
  rotate_left
  · simp only [Act.put, List.setIfInBounds_toArray, List.set_cons_zero, List.set_cons_succ, i64_w, i32_w]
    rfl
  try clear hHeld
  refine done_ (by kernel_rfl) ?_
  go_wp2_with fail
  go_ret
  have F := END.out w6 _ hT6 (may_sync HMAY.out nm) HKX.out (((Keeps.refl _ _).drew.trans' hK5).trans' hK6)
  simpa using F
set_option maxHeartbeats 3200000 in
theorem f_does_rename (h : Two Z W B bd br m S S) (hM : MayI S) (hm : m < 1000) {nm nn : Int} {bs ks : List Int} {av ak : Option Addr} {cv ck : Nat} (n1 : (Lit.int .i64 nm).wf = true) (n2 : (Lit.int .i64 nn).wf = true) (hb : Rb W (.slice av bs.length cv) bs) (hk : Rd W (.slice ak ks.length ck) ks) (hbl : bs.length ≤ 300) (hkl : ks.length ≤ 300)
    (hbB : 0 < bs.length → ∀ k, (Value.slice av bs.length cv).ownBlock = some k → k < B) (hkB : 0 < ks.length → ∀ k, (Value.slice ak ks.length ck).ownBlock = some k → k < B)  :
    Calls Try.prog 23 #[.pointer (some ⟨bd, 0, none⟩), .pointer (some ⟨br, 0, none⟩), .agg #[.int .i64 3, .int .i64 nm, .int .i64 nn, .slice av bs.length cv, .slice ak ks.length ck]] W (DoesP Z W B bd br m) := by
  have hX0 : Below W.heap.size W (W.alloc (.cells #[.int .i64 3, .int .i64 nm, .int .i64 nn, .slice av bs.length cv, .slice ak ks.length ck] 40)) := (Below.refl _ _).alloc (Nat.le_refl _) _
  have hzX : (W.alloc (.cells #[.int .i64 3, .int .i64 nm, .int .i64 nn, .slice av bs.length cv, .slice ak ks.length ck] 40)).heap.size = W.heap.size + 1 := by simp
  have hT0 := h.below hX0
  rw [hzX] at hT0
  have hT : Two (boxZ Z W) (W.alloc (.cells #[.int .i64 3, .int .i64 nm, .int .i64 nn, .slice av bs.length cv, .slice ak ks.length ck] 40)) B bd br m S S := hT0
  have hTd : Two (boxZ Z W) (W.alloc (.cells #[.int .i64 3, .int .i64 nm, .int .i64 nn, .slice av bs.length cv, .slice ak ks.length ck] 40)).drew B bd br m S S := hT.keeps (F := fun _ => False) (Keeps.refl _ _).drew (fun _ h => h.elim)
  have kX : Keeps (fun _ => False) W (W.alloc (.cells #[.int .i64 3, .int .i64 nm, .int .i64 nn, .slice av bs.length cv, .slice ak ks.length ck] 40)) := (Keeps.refl _ _).alloc _
  have bx := Blk.new W #[.int .i64 3, .int .i64 nm, .int .i64 nn, .slice av bs.length cv, .slice ak ks.length ck] 40
  have c0 : (W.alloc (.cells #[.int .i64 3, .int .i64 nm, .int .i64 nn, .slice av bs.length cv, .slice ak ks.length ck] 40)).cell? ⟨W.heap.size, 0, none⟩ = some (.int .i64 3) := bx.cell 0
  have c1 : (W.alloc (.cells #[.int .i64 3, .int .i64 nm, .int .i64 nn, .slice av bs.length cv, .slice ak ks.length ck] 40)).cell? ⟨W.heap.size, 1, none⟩ = some (.int .i64 nm) := bx.cell 1
  have c2 : (W.alloc (.cells #[.int .i64 3, .int .i64 nm, .int .i64 nn, .slice av bs.length cv, .slice ak ks.length ck] 40)).cell? ⟨W.heap.size, 2, none⟩ = some (.int .i64 nn) := bx.cell 2
  have c3 : (W.alloc (.cells #[.int .i64 3, .int .i64 nm, .int .i64 nn, .slice av bs.length cv, .slice ak ks.length ck] 40)).cell? ⟨W.heap.size, 3, none⟩ = some (.slice av bs.length cv) := bx.cell 3
  have c4 : (W.alloc (.cells #[.int .i64 3, .int .i64 nm, .int .i64 nn, .slice av bs.length cv, .slice ak ks.length ck] 40)).cell? ⟨W.heap.size, 4, none⟩ = some (.slice ak ks.length ck) := bx.cell 4
  have nz : ¬ (¬ boxZ Z W W.heap.size ∧ B ≤ W.heap.size) := fun h => h.1 (.inr ⟨Nat.le_refl _, by omega⟩)
  have hI := h.disk.inv
  have hs := h.disk.small
  have hU := h.disk.used_le
  have hdoc := doc_of hI hs hM
  have hBs := h.1
  have hbX : Rb (W.alloc (.cells #[.int .i64 3, .int .i64 nm, .int .i64 nn, .slice av bs.length cv, .slice ak ks.length ck] 40)) (.slice av bs.length cv) bs := hb.below hX0 (Nat.le_refl _)
  have hkX : Rd (W.alloc (.cells #[.int .i64 3, .int .i64 nm, .int .i64 nn, .slice av bs.length cv, .slice ak ks.length ck] 40)) (.slice ak ks.length ck) ks := hk.below hX0 (Nat.le_refl _)
  have END := Lib.hid (fun w6 S' => does_end (Z := Z) (W := W) (B := B) (bd := bd) (br := br) (m := m) (S' := S') (w6 := w6) (X := W.alloc (.cells #[.int .i64 3, .int .i64 nm, .int .i64 nn, .slice av bs.length cv, .slice ak ks.length ck] 40)))
  have HT := Lib.hid hT
  have HTD := Lib.hid hTd
  have HKX := Lib.hid kX
  have HBX := Lib.hid bx
  have HRB := Lib.hid hbX
  have HRK := Lib.hid hkX
  have HI := Lib.hid hdoc
  have HS := Lib.hid hs
  have HMAY := Lib.hid hM
  have HINV := Lib.hid hI
  clear hT hTd kX bx hbX hkX hdoc hs hM hX0 hI
  have HA := Lib.hid (td_rename HTD.out hm (n := nm) (to := nn) n1 n2)
  have HR := Lib.hid (fun w5 (h5 : Two (boxZ Z W) w5 B bd br (m + 1) (S.rename nm nn).1 S) => tr_rename h5 HI.out HS.out hm (n := nm) (to := nn) n1 n2)
  clear h hT0 hb hk
  go_enter Try.func23, Try.ntmps23
  go_wp2_with fail
  refine start_ (n := 14) (S := fun w' => w'.cell? ⟨W.heap.size, 1, none⟩ = some (.int .i64 nm) ∧ w'.cell? ⟨W.heap.size, 2, none⟩ = some (.int .i64 nn)) (ds := []) #[false, false, false, false, false, false, false, false, false, false, false, false, false, false] (by kernel_rfl) rfl rfl ⟨c1, c2⟩ (fun hHeld => ?_)
  refine pure_ (i := 0) (N := some 80) (v := ?_) (a' := ?_) #[true, false, false, false, false, false, false, false, false, false, false, false, false, false] rfl rfl (by kernel_rfl) (fun _ _ _ h => h) (Or.inl ⟨by rfl, ?_⟩) ?_ ?_
  rotate_left
  · intro w'
    go_simp
    with_reducible rfl
  rotate_left
  · simp only [Act.put, List.setIfInBounds_toArray, List.set_cons_zero, List.set_cons_succ, i64_w, i32_w]
    rfl
  refine pure_ (i := 1) (N := some 81) (v := ?_) (a' := ?_) #[true, true, false, false, false, false, false, false, false, false, false, false, false, false] rfl rfl (by kernel_rfl) (fun _ _ _ h => h) (Or.inl ⟨by rfl, ?_⟩) ?_ ?_
  rotate_left
  · intro w'
    go_simp
    with_reducible rfl
  rotate_left
  · simp only [Act.put, List.setIfInBounds_toArray, List.set_cons_zero, List.set_cons_succ, i64_w, i32_w]
    rfl
  refine pure_ (i := 3) (N := some 83) (v := ?_) (a' := ?_) #[true, true, false, true, false, false, false, false, false, false, false, false, false, false] rfl rfl (by kernel_rfl) (fun _ _ _ h => h) (Or.inl ⟨by rfl, ?_⟩) ?_ ?_
  rotate_left
  · intro w'
    go_simp
    with_reducible rfl
  rotate_left
  · simp only [Act.put, List.setIfInBounds_toArray, List.set_cons_zero, List.set_cons_succ, i64_w, i32_w]
    rfl
  refine pure_ (i := 6) (N := some 86) (v := ?_) (a' := ?_) #[true, true, false, true, false, false, true, false, false, false, false, false, false, false] rfl rfl (by kernel_rfl) (fun _ _ _ h => h) (Or.inl ⟨by rfl, ?_⟩) ?_ ?_
  rotate_left
  · intro w'
    go_simp
    with_reducible rfl
  rotate_left
  · simp only [Act.put, List.setIfInBounds_toArray, List.set_cons_zero, List.set_cons_succ, i64_w, i32_w]
    rfl
  refine pure_ (i := 7) (N := some 87) (v := ?_) (a' := ?_) #[true, true, false, true, false, false, true, true, false, false, false, false, false, false] rfl rfl (by kernel_rfl) (fun _ _ _ h => h) (Or.inl ⟨by rfl, ?_⟩) ?_ ?_
  rotate_left
  · intro w'
    go_simp
    with_reducible rfl
  rotate_left
  · simp only [Act.put, List.setIfInBounds_toArray, List.set_cons_zero, List.set_cons_succ, i64_w, i32_w]
    rfl
  refine pure_ (i := 9) (N := some 89) (v := ?_) (a' := ?_) #[true, true, false, true, false, false, true, true, false, true, false, false, false, false] rfl rfl (by kernel_rfl) (fun _ _ _ h => h) (Or.inl ⟨by rfl, ?_⟩) ?_ ?_
  rotate_left
  · intro w'
    go_simp
    with_reducible rfl
  rotate_left
  · simp only [Act.put, List.setIfInBounds_toArray, List.set_cons_zero, List.set_cons_succ, i64_w, i32_w]
    rfl
  refine take_ (i := 2) (N := some 82) (v := ?_) (a' := ?_) #[true, true, true, true, false, false, true, true, false, true, false, false, false, false] rfl rfl (by kernel_rfl) (fun _ _ _ h => h) (Or.inl ⟨by rfl, ?_⟩) hHeld ?_ ?_
  rotate_left
  · rintro w' ⟨s0, s1⟩
    go_simp
    with_reducible rfl
  rotate_left
  · simp only [Act.put, List.setIfInBounds_toArray, List.set_cons_zero, List.set_cons_succ, i64_w, i32_w]
    rfl
  refine take_ (i := 4) (N := some 84) (v := ?_) (a' := ?_) #[true, true, true, true, true, false, true, true, false, true, false, false, false, false] rfl rfl (by kernel_rfl) (fun _ _ _ h => h) (Or.inl ⟨by rfl, ?_⟩) hHeld ?_ ?_
  rotate_left
  · rintro w' ⟨s0, s1⟩
    go_simp
    with_reducible rfl
  rotate_left
  · simp only [Act.put, List.setIfInBounds_toArray, List.set_cons_zero, List.set_cons_succ, i64_w, i32_w]
    rfl
  refine take_ (i := 8) (N := some 88) (v := ?_) (a' := ?_) #[true, true, true, true, true, false, true, true, true, true, false, false, false, false] rfl rfl (by kernel_rfl) (fun _ _ _ h => h) (Or.inl ⟨by rfl, ?_⟩) hHeld ?_ ?_
  rotate_left
  · rintro w' ⟨s0, s1⟩
    go_simp
    with_reducible rfl
  rotate_left
  · simp only [Act.put, List.setIfInBounds_toArray, List.set_cons_zero, List.set_cons_succ, i64_w, i32_w]
    rfl
  refine take_ (i := 10) (N := some 90) (v := ?_) (a' := ?_) #[true, true, true, true, true, false, true, true, true, true, true, false, false, false] rfl rfl (by kernel_rfl) (fun _ _ _ h => h) (Or.inl ⟨by rfl, ?_⟩) hHeld ?_ ?_
  rotate_left
  · rintro w' ⟨s0, s1⟩
    go_simp
    with_reducible rfl
  rotate_left
  · simp only [Act.put, List.setIfInBounds_toArray, List.set_cons_zero, List.set_cons_succ, i64_w, i32_w]
    rfl
  refine one_ (i := 5) (N := some 85) #[true, true, true, true, true, true, true, true, true, true, true, false, false, false] rfl rfl (by kernel_rfl) (by decide) (fun K hK => ?_)
  refine goes_ Try.func19 (by kernel_rfl) rfl #[.pointer (some ⟨bd, 0, none⟩), .int .i64 nm, .int .i64 nn] (by rfl) rfl rfl (by simp only [List.map_toArray, List.map_cons, List.map_nil]; rfl) ?_
  with_reducible refine (HA.out).mono ?_
  rintro e w5 ⟨rfl, hT5, hK5⟩
  refine ⟨_, rfl, ?_⟩
  have HR5 := Lib.hid (HR.out w5 hT5)
  try clear hHeld
  refine hK.out _ _ ⟨(hK5.cellSome nz c1), (hK5.cellSome nz c2)⟩ (fun hHeld => ?_)
  clear hK K
  refine norm_ (a' := ?_) ?_ ?_
  rotate_left
  · show Act.put _ (some 85) _ = _
    simp only [Act.put, List.setIfInBounds_toArray, List.set_cons_zero, List.set_cons_succ, i64_w, i32_w]
    rfl
  refine one_ (i := 11) (N := some 91) #[true, true, true, true, true, true, true, true, true, true, true, true, false, false] rfl rfl (by kernel_rfl) (by decide) (fun K hK => ?_)
  refine goes_ Try.func44 (by kernel_rfl) rfl #[.pointer (some ⟨br, 0, none⟩), .int .i64 nm, .int .i64 nn] (by rfl) rfl rfl (by simp only [List.map_toArray, List.map_cons, List.map_nil]; rfl) ?_
  with_reducible refine (HR5.out).mono ?_
  rintro e w6 ⟨rfl, hT6, hK6⟩
  refine ⟨_, rfl, ?_⟩
  try clear hHeld
  refine hK.out _ _ ⟨(hK6.cellSome nz (hK5.cellSome nz c1)), (hK6.cellSome nz (hK5.cellSome nz c2))⟩ (fun hHeld => ?_)
  clear hK K
  refine norm_ (a' := ?_) ?_ ?_
  rotate_left
  · show Act.put _ (some 91) _ = _
    simp only [Act.put, List.setIfInBounds_toArray, List.set_cons_zero, List.set_cons_succ, i64_w, i32_w]
    rfl
  refine pure_ (i := 12) (N := some 92) (v := ?_) (a' := ?_) #[true, true, true, true, true, true, true, true, true, true, true, true, true, false] rfl rfl (by kernel_rfl) (fun _ _ _ h => h) (Or.inl ⟨by rfl, ?_⟩) ?_ ?_
  rotate_left
  · intro w'
    go_simp
    with_reducible rfl
  rotate_left
  · simp only [Act.put, List.setIfInBounds_toArray, List.set_cons_zero, List.set_cons_succ, i64_w, i32_w]
    rfl
  refine pure_ (i := 13) (N := some 6) (v := ?_) (a' := ?_) #[true, true, true, true, true, true, true, true, true, true, true, true, true, true] rfl rfl (by kernel_rfl) (fun _ _ _ h => h) (Or.inl ⟨by rfl, ?_⟩) ?_ ?_
  rotate_left
  · intro w'
    go_simp
    with_reducible rfl
  rotate_left
  · simp only [Act.put, List.setIfInBounds_toArray, List.set_cons_zero, List.set_cons_succ, i64_w, i32_w]
    rfl
  try clear hHeld
  refine done_ (by kernel_rfl) ?_
  go_wp2_with fail
  go_ret
  have F := END.out w6 _ hT6 (may_rename HMAY.out HINV.out nm nn) HKX.out (((Keeps.refl _ _).drew.trans' hK5).trans' hK6)
  simpa using F
set_option maxHeartbeats 3200000 in
theorem f_does_remove (h : Two Z W B bd br m S S) (hM : MayI S) (hm : m < 1000) {nm nn : Int} {bs ks : List Int} {av ak : Option Addr} {cv ck : Nat} (n1 : (Lit.int .i64 nm).wf = true) (n2 : (Lit.int .i64 nn).wf = true) (hb : Rb W (.slice av bs.length cv) bs) (hk : Rd W (.slice ak ks.length ck) ks) (hbl : bs.length ≤ 300) (hkl : ks.length ≤ 300)
    (hbB : 0 < bs.length → ∀ k, (Value.slice av bs.length cv).ownBlock = some k → k < B) (hkB : 0 < ks.length → ∀ k, (Value.slice ak ks.length ck).ownBlock = some k → k < B)  :
    Calls Try.prog 23 #[.pointer (some ⟨bd, 0, none⟩), .pointer (some ⟨br, 0, none⟩), .agg #[.int .i64 4, .int .i64 nm, .int .i64 nn, .slice av bs.length cv, .slice ak ks.length ck]] W (DoesP Z W B bd br m) := by
  have hX0 : Below W.heap.size W (W.alloc (.cells #[.int .i64 4, .int .i64 nm, .int .i64 nn, .slice av bs.length cv, .slice ak ks.length ck] 40)) := (Below.refl _ _).alloc (Nat.le_refl _) _
  have hzX : (W.alloc (.cells #[.int .i64 4, .int .i64 nm, .int .i64 nn, .slice av bs.length cv, .slice ak ks.length ck] 40)).heap.size = W.heap.size + 1 := by simp
  have hT0 := h.below hX0
  rw [hzX] at hT0
  have hT : Two (boxZ Z W) (W.alloc (.cells #[.int .i64 4, .int .i64 nm, .int .i64 nn, .slice av bs.length cv, .slice ak ks.length ck] 40)) B bd br m S S := hT0
  have hTd : Two (boxZ Z W) (W.alloc (.cells #[.int .i64 4, .int .i64 nm, .int .i64 nn, .slice av bs.length cv, .slice ak ks.length ck] 40)).drew B bd br m S S := hT.keeps (F := fun _ => False) (Keeps.refl _ _).drew (fun _ h => h.elim)
  have kX : Keeps (fun _ => False) W (W.alloc (.cells #[.int .i64 4, .int .i64 nm, .int .i64 nn, .slice av bs.length cv, .slice ak ks.length ck] 40)) := (Keeps.refl _ _).alloc _
  have bx := Blk.new W #[.int .i64 4, .int .i64 nm, .int .i64 nn, .slice av bs.length cv, .slice ak ks.length ck] 40
  have c0 : (W.alloc (.cells #[.int .i64 4, .int .i64 nm, .int .i64 nn, .slice av bs.length cv, .slice ak ks.length ck] 40)).cell? ⟨W.heap.size, 0, none⟩ = some (.int .i64 4) := bx.cell 0
  have c1 : (W.alloc (.cells #[.int .i64 4, .int .i64 nm, .int .i64 nn, .slice av bs.length cv, .slice ak ks.length ck] 40)).cell? ⟨W.heap.size, 1, none⟩ = some (.int .i64 nm) := bx.cell 1
  have c2 : (W.alloc (.cells #[.int .i64 4, .int .i64 nm, .int .i64 nn, .slice av bs.length cv, .slice ak ks.length ck] 40)).cell? ⟨W.heap.size, 2, none⟩ = some (.int .i64 nn) := bx.cell 2
  have c3 : (W.alloc (.cells #[.int .i64 4, .int .i64 nm, .int .i64 nn, .slice av bs.length cv, .slice ak ks.length ck] 40)).cell? ⟨W.heap.size, 3, none⟩ = some (.slice av bs.length cv) := bx.cell 3
  have c4 : (W.alloc (.cells #[.int .i64 4, .int .i64 nm, .int .i64 nn, .slice av bs.length cv, .slice ak ks.length ck] 40)).cell? ⟨W.heap.size, 4, none⟩ = some (.slice ak ks.length ck) := bx.cell 4
  have nz : ¬ (¬ boxZ Z W W.heap.size ∧ B ≤ W.heap.size) := fun h => h.1 (.inr ⟨Nat.le_refl _, by omega⟩)
  have hI := h.disk.inv
  have hs := h.disk.small
  have hU := h.disk.used_le
  have hdoc := doc_of hI hs hM
  have hBs := h.1
  have hbX : Rb (W.alloc (.cells #[.int .i64 4, .int .i64 nm, .int .i64 nn, .slice av bs.length cv, .slice ak ks.length ck] 40)) (.slice av bs.length cv) bs := hb.below hX0 (Nat.le_refl _)
  have hkX : Rd (W.alloc (.cells #[.int .i64 4, .int .i64 nm, .int .i64 nn, .slice av bs.length cv, .slice ak ks.length ck] 40)) (.slice ak ks.length ck) ks := hk.below hX0 (Nat.le_refl _)
  have END := Lib.hid (fun w6 S' => does_end (Z := Z) (W := W) (B := B) (bd := bd) (br := br) (m := m) (S' := S') (w6 := w6) (X := W.alloc (.cells #[.int .i64 4, .int .i64 nm, .int .i64 nn, .slice av bs.length cv, .slice ak ks.length ck] 40)))
  have HT := Lib.hid hT
  have HTD := Lib.hid hTd
  have HKX := Lib.hid kX
  have HBX := Lib.hid bx
  have HRB := Lib.hid hbX
  have HRK := Lib.hid hkX
  have HI := Lib.hid hdoc
  have HS := Lib.hid hs
  have HMAY := Lib.hid hM
  have HINV := Lib.hid hI
  clear hT hTd kX bx hbX hkX hdoc hs hM hX0 hI
  have HA := Lib.hid (td_remove HTD.out hm (n := nm) n1)
  have HR := Lib.hid (fun w5 (h5 : Two (boxZ Z W) w5 B bd br (m + 1) (S.remove nm).1 S) => tr_remove h5 HI.out HS.out hm (n := nm) n1)
  clear h hT0 hb hk
  go_enter Try.func23, Try.ntmps23
  go_wp2_with fail
  refine start_ (n := 10) (S := fun w' => w'.cell? ⟨W.heap.size, 1, none⟩ = some (.int .i64 nm)) (ds := []) #[false, false, false, false, false, false, false, false, false, false] (by kernel_rfl) rfl rfl (c1) (fun hHeld => ?_)
  refine pure_ (i := 0) (N := some 95) (v := ?_) (a' := ?_) #[true, false, false, false, false, false, false, false, false, false] rfl rfl (by kernel_rfl) (fun _ _ _ h => h) (Or.inl ⟨by rfl, ?_⟩) ?_ ?_
  rotate_left
  · intro w'
    go_simp
    with_reducible rfl
  rotate_left
  · simp only [Act.put, List.setIfInBounds_toArray, List.set_cons_zero, List.set_cons_succ, i64_w, i32_w]
    rfl
  refine pure_ (i := 1) (N := some 96) (v := ?_) (a' := ?_) #[true, true, false, false, false, false, false, false, false, false] rfl rfl (by kernel_rfl) (fun _ _ _ h => h) (Or.inl ⟨by rfl, ?_⟩) ?_ ?_
  rotate_left
  · intro w'
    go_simp
    with_reducible rfl
  rotate_left
  · simp only [Act.put, List.setIfInBounds_toArray, List.set_cons_zero, List.set_cons_succ, i64_w, i32_w]
    rfl
  refine pure_ (i := 4) (N := some 99) (v := ?_) (a' := ?_) #[true, true, false, false, true, false, false, false, false, false] rfl rfl (by kernel_rfl) (fun _ _ _ h => h) (Or.inl ⟨by rfl, ?_⟩) ?_ ?_
  rotate_left
  · intro w'
    go_simp
    with_reducible rfl
  rotate_left
  · simp only [Act.put, List.setIfInBounds_toArray, List.set_cons_zero, List.set_cons_succ, i64_w, i32_w]
    rfl
  refine pure_ (i := 5) (N := some 100) (v := ?_) (a' := ?_) #[true, true, false, false, true, true, false, false, false, false] rfl rfl (by kernel_rfl) (fun _ _ _ h => h) (Or.inl ⟨by rfl, ?_⟩) ?_ ?_
  rotate_left
  · intro w'
    go_simp
    with_reducible rfl
  rotate_left
  · simp only [Act.put, List.setIfInBounds_toArray, List.set_cons_zero, List.set_cons_succ, i64_w, i32_w]
    rfl
  refine take_ (i := 2) (N := some 97) (v := ?_) (a' := ?_) #[true, true, true, false, true, true, false, false, false, false] rfl rfl (by kernel_rfl) (fun _ _ _ h => h) (Or.inl ⟨by rfl, ?_⟩) hHeld ?_ ?_
  rotate_left
  · intro w' s0
    go_simp
    with_reducible rfl
  rotate_left
  · simp only [Act.put, List.setIfInBounds_toArray, List.set_cons_zero, List.set_cons_succ, i64_w, i32_w]
    rfl
  refine take_ (i := 6) (N := some 101) (v := ?_) (a' := ?_) #[true, true, true, false, true, true, true, false, false, false] rfl rfl (by kernel_rfl) (fun _ _ _ h => h) (Or.inl ⟨by rfl, ?_⟩) hHeld ?_ ?_
  rotate_left
  · intro w' s0
    go_simp
    with_reducible rfl
  rotate_left
  · simp only [Act.put, List.setIfInBounds_toArray, List.set_cons_zero, List.set_cons_succ, i64_w, i32_w]
    rfl
  refine one_ (i := 3) (N := some 98) #[true, true, true, true, true, true, true, false, false, false] rfl rfl (by kernel_rfl) (by decide) (fun K hK => ?_)
  refine goes_ Try.func20 (by kernel_rfl) rfl #[.pointer (some ⟨bd, 0, none⟩), .int .i64 nm] (by rfl) rfl rfl (by simp only [List.map_toArray, List.map_cons, List.map_nil]; rfl) ?_
  with_reducible refine (HA.out).mono ?_
  rintro e w5 ⟨rfl, hT5, hK5⟩
  refine ⟨_, rfl, ?_⟩
  have HR5 := Lib.hid (HR.out w5 hT5)
  try clear hHeld
  refine hK.out _ _ ((hK5.cellSome nz c1)) (fun hHeld => ?_)
  clear hK K
  refine norm_ (a' := ?_) ?_ ?_
  rotate_left
  · show Act.put _ (some 98) _ = _
    simp only [Act.put, List.setIfInBounds_toArray, List.set_cons_zero, List.set_cons_succ, i64_w, i32_w]
    rfl
  refine one_ (i := 7) (N := some 102) #[true, true, true, true, true, true, true, true, false, false] rfl rfl (by kernel_rfl) (by decide) (fun K hK => ?_)
  refine goes_ Try.func45 (by kernel_rfl) rfl #[.pointer (some ⟨br, 0, none⟩), .int .i64 nm] (by rfl) rfl rfl (by simp only [List.map_toArray, List.map_cons, List.map_nil]; rfl) ?_
  with_reducible refine (HR5.out).mono ?_
  rintro e w6 ⟨rfl, hT6, hK6⟩
  refine ⟨_, rfl, ?_⟩
  try clear hHeld
  refine hK.out _ _ ((hK6.cellSome nz (hK5.cellSome nz c1))) (fun hHeld => ?_)
  clear hK K
  refine norm_ (a' := ?_) ?_ ?_
  rotate_left
  · show Act.put _ (some 102) _ = _
    simp only [Act.put, List.setIfInBounds_toArray, List.set_cons_zero, List.set_cons_succ, i64_w, i32_w]
    rfl
  refine pure_ (i := 8) (N := some 103) (v := ?_) (a' := ?_) #[true, true, true, true, true, true, true, true, true, false] rfl rfl (by kernel_rfl) (fun _ _ _ h => h) (Or.inl ⟨by rfl, ?_⟩) ?_ ?_
  rotate_left
  · intro w'
    go_simp
    with_reducible rfl
  rotate_left
  · simp only [Act.put, List.setIfInBounds_toArray, List.set_cons_zero, List.set_cons_succ, i64_w, i32_w]
    rfl
  refine pure_ (i := 9) (N := some 6) (v := ?_) (a' := ?_) #[true, true, true, true, true, true, true, true, true, true] rfl rfl (by kernel_rfl) (fun _ _ _ h => h) (Or.inl ⟨by rfl, ?_⟩) ?_ ?_
  rotate_left
  · intro w'
    go_simp
    with_reducible rfl
  rotate_left
  · simp only [Act.put, List.setIfInBounds_toArray, List.set_cons_zero, List.set_cons_succ, i64_w, i32_w]
    rfl
  try clear hHeld
  refine done_ (by kernel_rfl) ?_
  go_wp2_with fail
  go_ret
  have F := END.out w6 _ hT6 (may_remove HMAY.out nm) HKX.out (((Keeps.refl _ _).drew.trans' hK5).trans' hK6)
  simpa using F
set_option maxHeartbeats 3200000 in
theorem f_does_syncDir (h : Two Z W B bd br m S S) (hM : MayI S) (hm : m < 1000) {nm nn : Int} {bs ks : List Int} {av ak : Option Addr} {cv ck : Nat} (n1 : (Lit.int .i64 nm).wf = true) (n2 : (Lit.int .i64 nn).wf = true) (hb : Rb W (.slice av bs.length cv) bs) (hk : Rd W (.slice ak ks.length ck) ks) (hbl : bs.length ≤ 300) (hkl : ks.length ≤ 300)
    (hbB : 0 < bs.length → ∀ k, (Value.slice av bs.length cv).ownBlock = some k → k < B) (hkB : 0 < ks.length → ∀ k, (Value.slice ak ks.length ck).ownBlock = some k → k < B)  :
    Calls Try.prog 23 #[.pointer (some ⟨bd, 0, none⟩), .pointer (some ⟨br, 0, none⟩), .agg #[.int .i64 5, .int .i64 nm, .int .i64 nn, .slice av bs.length cv, .slice ak ks.length ck]] W (DoesP Z W B bd br m) := by
  have hX0 : Below W.heap.size W (W.alloc (.cells #[.int .i64 5, .int .i64 nm, .int .i64 nn, .slice av bs.length cv, .slice ak ks.length ck] 40)) := (Below.refl _ _).alloc (Nat.le_refl _) _
  have hzX : (W.alloc (.cells #[.int .i64 5, .int .i64 nm, .int .i64 nn, .slice av bs.length cv, .slice ak ks.length ck] 40)).heap.size = W.heap.size + 1 := by simp
  have hT0 := h.below hX0
  rw [hzX] at hT0
  have hT : Two (boxZ Z W) (W.alloc (.cells #[.int .i64 5, .int .i64 nm, .int .i64 nn, .slice av bs.length cv, .slice ak ks.length ck] 40)) B bd br m S S := hT0
  have hTd : Two (boxZ Z W) (W.alloc (.cells #[.int .i64 5, .int .i64 nm, .int .i64 nn, .slice av bs.length cv, .slice ak ks.length ck] 40)).drew B bd br m S S := hT.keeps (F := fun _ => False) (Keeps.refl _ _).drew (fun _ h => h.elim)
  have kX : Keeps (fun _ => False) W (W.alloc (.cells #[.int .i64 5, .int .i64 nm, .int .i64 nn, .slice av bs.length cv, .slice ak ks.length ck] 40)) := (Keeps.refl _ _).alloc _
  have bx := Blk.new W #[.int .i64 5, .int .i64 nm, .int .i64 nn, .slice av bs.length cv, .slice ak ks.length ck] 40
  have c0 : (W.alloc (.cells #[.int .i64 5, .int .i64 nm, .int .i64 nn, .slice av bs.length cv, .slice ak ks.length ck] 40)).cell? ⟨W.heap.size, 0, none⟩ = some (.int .i64 5) := bx.cell 0
  have c1 : (W.alloc (.cells #[.int .i64 5, .int .i64 nm, .int .i64 nn, .slice av bs.length cv, .slice ak ks.length ck] 40)).cell? ⟨W.heap.size, 1, none⟩ = some (.int .i64 nm) := bx.cell 1
  have c2 : (W.alloc (.cells #[.int .i64 5, .int .i64 nm, .int .i64 nn, .slice av bs.length cv, .slice ak ks.length ck] 40)).cell? ⟨W.heap.size, 2, none⟩ = some (.int .i64 nn) := bx.cell 2
  have c3 : (W.alloc (.cells #[.int .i64 5, .int .i64 nm, .int .i64 nn, .slice av bs.length cv, .slice ak ks.length ck] 40)).cell? ⟨W.heap.size, 3, none⟩ = some (.slice av bs.length cv) := bx.cell 3
  have c4 : (W.alloc (.cells #[.int .i64 5, .int .i64 nm, .int .i64 nn, .slice av bs.length cv, .slice ak ks.length ck] 40)).cell? ⟨W.heap.size, 4, none⟩ = some (.slice ak ks.length ck) := bx.cell 4
  have nz : ¬ (¬ boxZ Z W W.heap.size ∧ B ≤ W.heap.size) := fun h => h.1 (.inr ⟨Nat.le_refl _, by omega⟩)
  have hI := h.disk.inv
  have hs := h.disk.small
  have hU := h.disk.used_le
  have hdoc := doc_of hI hs hM
  have hBs := h.1
  have hbX : Rb (W.alloc (.cells #[.int .i64 5, .int .i64 nm, .int .i64 nn, .slice av bs.length cv, .slice ak ks.length ck] 40)) (.slice av bs.length cv) bs := hb.below hX0 (Nat.le_refl _)
  have hkX : Rd (W.alloc (.cells #[.int .i64 5, .int .i64 nm, .int .i64 nn, .slice av bs.length cv, .slice ak ks.length ck] 40)) (.slice ak ks.length ck) ks := hk.below hX0 (Nat.le_refl _)
  have END := Lib.hid (fun w6 S' => does_end (Z := Z) (W := W) (B := B) (bd := bd) (br := br) (m := m) (S' := S') (w6 := w6) (X := W.alloc (.cells #[.int .i64 5, .int .i64 nm, .int .i64 nn, .slice av bs.length cv, .slice ak ks.length ck] 40)))
  have HT := Lib.hid hT
  have HTD := Lib.hid hTd
  have HKX := Lib.hid kX
  have HBX := Lib.hid bx
  have HRB := Lib.hid hbX
  have HRK := Lib.hid hkX
  have HI := Lib.hid hdoc
  have HS := Lib.hid hs
  have HMAY := Lib.hid hM
  have HINV := Lib.hid hI
  clear hT hTd kX bx hbX hkX hdoc hs hM hX0 hI
  have HA := Lib.hid (td_syncDir HT.out hm)
  have HR := Lib.hid (fun w5 (h5 : Two (boxZ Z W) w5 B bd br (m + 1) S.syncDir.1 S) (k5 : Keeps (fun q => ¬ boxZ Z W q ∧ B ≤ q) (W.alloc (.cells #[.int .i64 5, .int .i64 nm, .int .i64 nn, .slice av bs.length cv, .slice ak ks.length ck] 40)) w5) => tr_syncDir h5 HI.out HS.out hm)
  clear h hT0 hb hk
  go_enter Try.func23, Try.ntmps23
  go_wp2_with (first
    | (go_at_call 13; refine HA.out.mono ?_; rintro e w5 ⟨rfl, hT5, hK5⟩; have HR5 := Lib.hid (HR.out w5 hT5 hK5); have g2 := hK5.cellSome nz c2; have g4 := hK5.cellSome nz c4)
    | (go_at_call 46; refine HR5.out.mono ?_; rintro e w6 ⟨rfl, hT6, hK6⟩)
    | go_in)
  go_ret
  have F := END.out w6 _ hT6 (may_syncDir HMAY.out HINV.out) HKX.out (hK5.trans' hK6)
  simpa using F
set_option maxHeartbeats 3200000 in
theorem f_does_cut (h : Two Z W B bd br m S S) (hM : MayI S) (hm : m < 1000) {nm nn : Int} {bs ks : List Int} {av ak : Option Addr} {cv ck : Nat} (n1 : (Lit.int .i64 nm).wf = true) (n2 : (Lit.int .i64 nn).wf = true) (hb : Rb W (.slice av bs.length cv) bs) (hk : Rd W (.slice ak ks.length ck) ks) (hbl : bs.length ≤ 300) (hkl : ks.length ≤ 300)
    (hbB : 0 < bs.length → ∀ k, (Value.slice av bs.length cv).ownBlock = some k → k < B) (hkB : 0 < ks.length → ∀ k, (Value.slice ak ks.length ck).ownBlock = some k → k < B)  :
    Calls Try.prog 23 #[.pointer (some ⟨bd, 0, none⟩), .pointer (some ⟨br, 0, none⟩), .agg #[.int .i64 6, .int .i64 nm, .int .i64 nn, .slice av bs.length cv, .slice ak ks.length ck]] W (DoesP Z W B bd br m) := by
  have hX0 : Below W.heap.size W (W.alloc (.cells #[.int .i64 6, .int .i64 nm, .int .i64 nn, .slice av bs.length cv, .slice ak ks.length ck] 40)) := (Below.refl _ _).alloc (Nat.le_refl _) _
  have hzX : (W.alloc (.cells #[.int .i64 6, .int .i64 nm, .int .i64 nn, .slice av bs.length cv, .slice ak ks.length ck] 40)).heap.size = W.heap.size + 1 := by simp
  have hT0 := h.below hX0
  rw [hzX] at hT0
  have hT : Two (boxZ Z W) (W.alloc (.cells #[.int .i64 6, .int .i64 nm, .int .i64 nn, .slice av bs.length cv, .slice ak ks.length ck] 40)) B bd br m S S := hT0
  have hTd : Two (boxZ Z W) (W.alloc (.cells #[.int .i64 6, .int .i64 nm, .int .i64 nn, .slice av bs.length cv, .slice ak ks.length ck] 40)).drew B bd br m S S := hT.keeps (F := fun _ => False) (Keeps.refl _ _).drew (fun _ h => h.elim)
  have kX : Keeps (fun _ => False) W (W.alloc (.cells #[.int .i64 6, .int .i64 nm, .int .i64 nn, .slice av bs.length cv, .slice ak ks.length ck] 40)) := (Keeps.refl _ _).alloc _
  have bx := Blk.new W #[.int .i64 6, .int .i64 nm, .int .i64 nn, .slice av bs.length cv, .slice ak ks.length ck] 40
  have c0 : (W.alloc (.cells #[.int .i64 6, .int .i64 nm, .int .i64 nn, .slice av bs.length cv, .slice ak ks.length ck] 40)).cell? ⟨W.heap.size, 0, none⟩ = some (.int .i64 6) := bx.cell 0
  have c1 : (W.alloc (.cells #[.int .i64 6, .int .i64 nm, .int .i64 nn, .slice av bs.length cv, .slice ak ks.length ck] 40)).cell? ⟨W.heap.size, 1, none⟩ = some (.int .i64 nm) := bx.cell 1
  have c2 : (W.alloc (.cells #[.int .i64 6, .int .i64 nm, .int .i64 nn, .slice av bs.length cv, .slice ak ks.length ck] 40)).cell? ⟨W.heap.size, 2, none⟩ = some (.int .i64 nn) := bx.cell 2
  have c3 : (W.alloc (.cells #[.int .i64 6, .int .i64 nm, .int .i64 nn, .slice av bs.length cv, .slice ak ks.length ck] 40)).cell? ⟨W.heap.size, 3, none⟩ = some (.slice av bs.length cv) := bx.cell 3
  have c4 : (W.alloc (.cells #[.int .i64 6, .int .i64 nm, .int .i64 nn, .slice av bs.length cv, .slice ak ks.length ck] 40)).cell? ⟨W.heap.size, 4, none⟩ = some (.slice ak ks.length ck) := bx.cell 4
  have nz : ¬ (¬ boxZ Z W W.heap.size ∧ B ≤ W.heap.size) := fun h => h.1 (.inr ⟨Nat.le_refl _, by omega⟩)
  have hI := h.disk.inv
  have hs := h.disk.small
  have hU := h.disk.used_le
  have hdoc := doc_of hI hs hM
  have hBs := h.1
  have hbX : Rb (W.alloc (.cells #[.int .i64 6, .int .i64 nm, .int .i64 nn, .slice av bs.length cv, .slice ak ks.length ck] 40)) (.slice av bs.length cv) bs := hb.below hX0 (Nat.le_refl _)
  have hkX : Rd (W.alloc (.cells #[.int .i64 6, .int .i64 nm, .int .i64 nn, .slice av bs.length cv, .slice ak ks.length ck] 40)) (.slice ak ks.length ck) ks := hk.below hX0 (Nat.le_refl _)
  have END := Lib.hid (fun w6 S' => does_end (Z := Z) (W := W) (B := B) (bd := bd) (br := br) (m := m) (S' := S') (w6 := w6) (X := W.alloc (.cells #[.int .i64 6, .int .i64 nm, .int .i64 nn, .slice av bs.length cv, .slice ak ks.length ck] 40)))
  have HT := Lib.hid hT
  have HTD := Lib.hid hTd
  have HKX := Lib.hid kX
  have HBX := Lib.hid bx
  have HRB := Lib.hid hbX
  have HRK := Lib.hid hkX
  have HI := Lib.hid hdoc
  have HS := Lib.hid hs
  have HMAY := Lib.hid hM
  have HINV := Lib.hid hI
  clear hT hTd kX bx hbX hkX hdoc hs hM hX0 hI
  have HA := Lib.hid (td_cut HT.out hm (n := nn) n2)
  have HR := Lib.hid (fun w5 (h5 : Two (boxZ Z W) w5 B bd br (m + 1) (S.cut nn) S) (k5 : Keeps (fun q => ¬ boxZ Z W q ∧ B ≤ q) (W.alloc (.cells #[.int .i64 6, .int .i64 nm, .int .i64 nn, .slice av bs.length cv, .slice ak ks.length ck] 40)) w5) => tr_cut h5 nn)
  clear h hT0 hb hk
  go_enter Try.func23, Try.ntmps23
  go_wp2_with (first
    | (go_at_call 14; refine HA.out.mono ?_; rintro e w5 ⟨rfl, hT5, hK5⟩; have HR5 := Lib.hid (HR.out w5 hT5 hK5); have g2 := hK5.cellSome nz c2; have g4 := hK5.cellSome nz c4)
    | (go_at_call 47; refine HR5.out.mono ?_; rintro e w6 ⟨rfl, hT6, hK6⟩)
    | go_in)
  go_ret
  have F := END.out w6 _ hT6 (⟨HMAY.out.may, HMAY.out.kept⟩) HKX.out (hK5.trans' hK6)
  simpa using F
set_option maxHeartbeats 3200000 in
theorem f_does_crash (h : Two Z W B bd br m S S) (hM : MayI S) (hm : m < 1000) {nm nn : Int} {bs ks : List Int} {av ak : Option Addr} {cv ck : Nat} (n1 : (Lit.int .i64 nm).wf = true) (n2 : (Lit.int .i64 nn).wf = true) (hb : Rb W (.slice av bs.length cv) bs) (hk : Rd W (.slice ak ks.length ck) ks) (hbl : bs.length ≤ 300) (hkl : ks.length ≤ 300)
    (hbB : 0 < bs.length → ∀ k, (Value.slice av bs.length cv).ownBlock = some k → k < B) (hkB : 0 < ks.length → ∀ k, (Value.slice ak ks.length ck).ownBlock = some k → k < B)  :
    Calls Try.prog 23 #[.pointer (some ⟨bd, 0, none⟩), .pointer (some ⟨br, 0, none⟩), .agg #[.int .i64 7, .int .i64 nm, .int .i64 nn, .slice av bs.length cv, .slice ak ks.length ck]] W (DoesP Z W B bd br m) := by
  have hX0 : Below W.heap.size W (W.alloc (.cells #[.int .i64 7, .int .i64 nm, .int .i64 nn, .slice av bs.length cv, .slice ak ks.length ck] 40)) := (Below.refl _ _).alloc (Nat.le_refl _) _
  have hzX : (W.alloc (.cells #[.int .i64 7, .int .i64 nm, .int .i64 nn, .slice av bs.length cv, .slice ak ks.length ck] 40)).heap.size = W.heap.size + 1 := by simp
  have hT0 := h.below hX0
  rw [hzX] at hT0
  have hT : Two (boxZ Z W) (W.alloc (.cells #[.int .i64 7, .int .i64 nm, .int .i64 nn, .slice av bs.length cv, .slice ak ks.length ck] 40)) B bd br m S S := hT0
  have hTd : Two (boxZ Z W) (W.alloc (.cells #[.int .i64 7, .int .i64 nm, .int .i64 nn, .slice av bs.length cv, .slice ak ks.length ck] 40)).drew B bd br m S S := hT.keeps (F := fun _ => False) (Keeps.refl _ _).drew (fun _ h => h.elim)
  have kX : Keeps (fun _ => False) W (W.alloc (.cells #[.int .i64 7, .int .i64 nm, .int .i64 nn, .slice av bs.length cv, .slice ak ks.length ck] 40)) := (Keeps.refl _ _).alloc _
  have bx := Blk.new W #[.int .i64 7, .int .i64 nm, .int .i64 nn, .slice av bs.length cv, .slice ak ks.length ck] 40
  have c0 : (W.alloc (.cells #[.int .i64 7, .int .i64 nm, .int .i64 nn, .slice av bs.length cv, .slice ak ks.length ck] 40)).cell? ⟨W.heap.size, 0, none⟩ = some (.int .i64 7) := bx.cell 0
  have c1 : (W.alloc (.cells #[.int .i64 7, .int .i64 nm, .int .i64 nn, .slice av bs.length cv, .slice ak ks.length ck] 40)).cell? ⟨W.heap.size, 1, none⟩ = some (.int .i64 nm) := bx.cell 1
  have c2 : (W.alloc (.cells #[.int .i64 7, .int .i64 nm, .int .i64 nn, .slice av bs.length cv, .slice ak ks.length ck] 40)).cell? ⟨W.heap.size, 2, none⟩ = some (.int .i64 nn) := bx.cell 2
  have c3 : (W.alloc (.cells #[.int .i64 7, .int .i64 nm, .int .i64 nn, .slice av bs.length cv, .slice ak ks.length ck] 40)).cell? ⟨W.heap.size, 3, none⟩ = some (.slice av bs.length cv) := bx.cell 3
  have c4 : (W.alloc (.cells #[.int .i64 7, .int .i64 nm, .int .i64 nn, .slice av bs.length cv, .slice ak ks.length ck] 40)).cell? ⟨W.heap.size, 4, none⟩ = some (.slice ak ks.length ck) := bx.cell 4
  have nz : ¬ (¬ boxZ Z W W.heap.size ∧ B ≤ W.heap.size) := fun h => h.1 (.inr ⟨Nat.le_refl _, by omega⟩)
  have hI := h.disk.inv
  have hs := h.disk.small
  have hU := h.disk.used_le
  have hdoc := doc_of hI hs hM
  have hBs := h.1
  have hbX : Rb (W.alloc (.cells #[.int .i64 7, .int .i64 nm, .int .i64 nn, .slice av bs.length cv, .slice ak ks.length ck] 40)) (.slice av bs.length cv) bs := hb.below hX0 (Nat.le_refl _)
  have hkX : Rd (W.alloc (.cells #[.int .i64 7, .int .i64 nm, .int .i64 nn, .slice av bs.length cv, .slice ak ks.length ck] 40)) (.slice ak ks.length ck) ks := hk.below hX0 (Nat.le_refl _)
  have END := Lib.hid (fun w6 S' => does_end (Z := Z) (W := W) (B := B) (bd := bd) (br := br) (m := m) (S' := S') (w6 := w6) (X := W.alloc (.cells #[.int .i64 7, .int .i64 nm, .int .i64 nn, .slice av bs.length cv, .slice ak ks.length ck] 40)))
  have HT := Lib.hid hT
  have HTD := Lib.hid hTd
  have HKX := Lib.hid kX
  have HBX := Lib.hid bx
  have HRB := Lib.hid hbX
  have HRK := Lib.hid hkX
  have HI := Lib.hid hdoc
  have HS := Lib.hid hs
  have HMAY := Lib.hid hM
  have HINV := Lib.hid hI
  clear hT hTd kX bx hbX hkX hdoc hs hM hX0 hI
  have HA := Lib.hid (td_crash HT.out hm (n := nn) HRK.out hkl (fun h0 k hk => .inl (hkB h0 k hk)))
  have HR := Lib.hid (fun w5 (h5 : Two (boxZ Z W) w5 B bd br (m + 1) (S.crash nn ks) S) (k5 : Keeps (fun q => ¬ boxZ Z W q ∧ B ≤ q) (W.alloc (.cells #[.int .i64 7, .int .i64 nm, .int .i64 nn, .slice av bs.length cv, .slice ak ks.length ck] 40)) w5) => tr_crash h5 HI.out HS.out (n := nn) (HRK.out.keeps' k5 hkB) hkl (fun h0 k hk => .inl (hkB h0 k hk)))
  clear h hT0 hb hk
  go_enter Try.func23, Try.ntmps23
  go_wp2_with (first
    | (go_at_call 15; refine HA.out.mono ?_; rintro e w5 ⟨rfl, hT5, hK5⟩; have HR5 := Lib.hid (HR.out w5 hT5 hK5); have g2 := hK5.cellSome nz c2; have g4 := hK5.cellSome nz c4)
    | (go_at_call 48; refine HR5.out.mono ?_; rintro e w6 ⟨rfl, hT6, hK6⟩)
    | go_in)
  go_ret
  have F := END.out w6 _ hT6 (may_crash HMAY.out nn ks) HKX.out (hK5.trans' hK6)
  simpa using F
set_option maxHeartbeats 3200000 in
theorem f_does_none (h : Two Z W B bd br m S S) (hM : MayI S) (hm : m < 1000) {kd nm nn : Int} {bs ks : List Int} {av ak : Option Addr} {cv ck : Nat} (n1 : (Lit.int .i64 nm).wf = true) (n2 : (Lit.int .i64 nn).wf = true) (hb : Rb W (.slice av bs.length cv) bs) (hk : Rd W (.slice ak ks.length ck) ks) (hbl : bs.length ≤ 300) (hkl : ks.length ≤ 300)
    (hbB : 0 < bs.length → ∀ k, (Value.slice av bs.length cv).ownBlock = some k → k < B) (hkB : 0 < ks.length → ∀ k, (Value.slice ak ks.length ck).ownBlock = some k → k < B) (hk0 : ∀ j : Int, 0 ≤ j → j ≤ 7 → kd ≠ j) :
    Calls Try.prog 23 #[.pointer (some ⟨bd, 0, none⟩), .pointer (some ⟨br, 0, none⟩), .agg #[.int .i64 kd, .int .i64 nm, .int .i64 nn, .slice av bs.length cv, .slice ak ks.length ck]] W (DoesP Z W B bd br m) := by
  have hX0 : Below W.heap.size W (W.alloc (.cells #[.int .i64 kd, .int .i64 nm, .int .i64 nn, .slice av bs.length cv, .slice ak ks.length ck] 40)) := (Below.refl _ _).alloc (Nat.le_refl _) _
  have hzX : (W.alloc (.cells #[.int .i64 kd, .int .i64 nm, .int .i64 nn, .slice av bs.length cv, .slice ak ks.length ck] 40)).heap.size = W.heap.size + 1 := by simp
  have hT0 := h.below hX0
  rw [hzX] at hT0
  have hT : Two (boxZ Z W) (W.alloc (.cells #[.int .i64 kd, .int .i64 nm, .int .i64 nn, .slice av bs.length cv, .slice ak ks.length ck] 40)) B bd br m S S := hT0
  have hTd : Two (boxZ Z W) (W.alloc (.cells #[.int .i64 kd, .int .i64 nm, .int .i64 nn, .slice av bs.length cv, .slice ak ks.length ck] 40)).drew B bd br m S S := hT.keeps (F := fun _ => False) (Keeps.refl _ _).drew (fun _ h => h.elim)
  have kX : Keeps (fun _ => False) W (W.alloc (.cells #[.int .i64 kd, .int .i64 nm, .int .i64 nn, .slice av bs.length cv, .slice ak ks.length ck] 40)) := (Keeps.refl _ _).alloc _
  have bx := Blk.new W #[.int .i64 kd, .int .i64 nm, .int .i64 nn, .slice av bs.length cv, .slice ak ks.length ck] 40
  have c0 : (W.alloc (.cells #[.int .i64 kd, .int .i64 nm, .int .i64 nn, .slice av bs.length cv, .slice ak ks.length ck] 40)).cell? ⟨W.heap.size, 0, none⟩ = some (.int .i64 kd) := bx.cell 0
  have c1 : (W.alloc (.cells #[.int .i64 kd, .int .i64 nm, .int .i64 nn, .slice av bs.length cv, .slice ak ks.length ck] 40)).cell? ⟨W.heap.size, 1, none⟩ = some (.int .i64 nm) := bx.cell 1
  have c2 : (W.alloc (.cells #[.int .i64 kd, .int .i64 nm, .int .i64 nn, .slice av bs.length cv, .slice ak ks.length ck] 40)).cell? ⟨W.heap.size, 2, none⟩ = some (.int .i64 nn) := bx.cell 2
  have c3 : (W.alloc (.cells #[.int .i64 kd, .int .i64 nm, .int .i64 nn, .slice av bs.length cv, .slice ak ks.length ck] 40)).cell? ⟨W.heap.size, 3, none⟩ = some (.slice av bs.length cv) := bx.cell 3
  have c4 : (W.alloc (.cells #[.int .i64 kd, .int .i64 nm, .int .i64 nn, .slice av bs.length cv, .slice ak ks.length ck] 40)).cell? ⟨W.heap.size, 4, none⟩ = some (.slice ak ks.length ck) := bx.cell 4
  have nz : ¬ (¬ boxZ Z W W.heap.size ∧ B ≤ W.heap.size) := fun h => h.1 (.inr ⟨Nat.le_refl _, by omega⟩)
  have hI := h.disk.inv
  have hs := h.disk.small
  have hU := h.disk.used_le
  have hdoc := doc_of hI hs hM
  have hBs := h.1
  have hbX : Rb (W.alloc (.cells #[.int .i64 kd, .int .i64 nm, .int .i64 nn, .slice av bs.length cv, .slice ak ks.length ck] 40)) (.slice av bs.length cv) bs := hb.below hX0 (Nat.le_refl _)
  have hkX : Rd (W.alloc (.cells #[.int .i64 kd, .int .i64 nm, .int .i64 nn, .slice av bs.length cv, .slice ak ks.length ck] 40)) (.slice ak ks.length ck) ks := hk.below hX0 (Nat.le_refl _)
  have END := Lib.hid (fun w6 S' => does_end (Z := Z) (W := W) (B := B) (bd := bd) (br := br) (m := m) (S' := S') (w6 := w6) (X := W.alloc (.cells #[.int .i64 kd, .int .i64 nm, .int .i64 nn, .slice av bs.length cv, .slice ak ks.length ck] 40)))
  have e0 : (kd == 0) = false := by simpa using hk0 0 (by omega) (by omega)
  have e1 : (kd == 1) = false := by simpa using hk0 1 (by omega) (by omega)
  have e2 : (kd == 2) = false := by simpa using hk0 2 (by omega) (by omega)
  have e3 : (kd == 3) = false := by simpa using hk0 3 (by omega) (by omega)
  have e4 : (kd == 4) = false := by simpa using hk0 4 (by omega) (by omega)
  have e5 : (kd == 5) = false := by simpa using hk0 5 (by omega) (by omega)
  have e6 : (kd == 6) = false := by simpa using hk0 6 (by omega) (by omega)
  have e7 : (kd == 7) = false := by simpa using hk0 7 (by omega) (by omega)
  have HT1 := Lib.hid (hT.mono (Nat.le_succ m) (by omega))
  have HT := Lib.hid hT
  have HTD := Lib.hid hTd
  have HKX := Lib.hid kX
  have HBX := Lib.hid bx
  have HRB := Lib.hid hbX
  have HRK := Lib.hid hkX
  have HI := Lib.hid hdoc
  have HS := Lib.hid hs
  have HMAY := Lib.hid hM
  have HINV := Lib.hid hI
  clear hT hTd kX bx hbX hkX hdoc hs hM hX0 hI
  clear h hT0 hb hk
  go_enter Try.func23, Try.ntmps23
  go_wp2_with fail
  go_ret
  exact END.out _ _ HT1.out HMAY.out HKX.out (Keeps.refl _ _)
set_option maxHeartbeats 3200000 in
theorem f_does_append (h : Two Z W B bd br m S S) (hM : MayI S) (hm : m < 1000) {nm nn : Int} {bs ks : List Int} {av ak : Option Addr} {cv ck : Nat} (n1 : (Lit.int .i64 nm).wf = true) (n2 : (Lit.int .i64 nn).wf = true) (hb : Rb W (.slice av bs.length cv) bs) (hk : Rd W (.slice ak ks.length ck) ks) (hbl : bs.length ≤ 300) (hkl : ks.length ≤ 300)
    (hbB : 0 < bs.length → ∀ k, (Value.slice av bs.length cv).ownBlock = some k → k < B) (hkB : 0 < ks.length → ∀ k, (Value.slice ak ks.length ck).ownBlock = some k → k < B)  :
    Calls Try.prog 23 #[.pointer (some ⟨bd, 0, none⟩), .pointer (some ⟨br, 0, none⟩), .agg #[.int .i64 0, .int .i64 nm, .int .i64 nn, .slice av bs.length cv, .slice ak ks.length ck]] W (DoesP Z W B bd br m) := by
  have hX0 : Below W.heap.size W (W.alloc (.cells #[.int .i64 0, .int .i64 nm, .int .i64 nn, .slice av bs.length cv, .slice ak ks.length ck] 40)) := (Below.refl _ _).alloc (Nat.le_refl _) _
  have hzX : (W.alloc (.cells #[.int .i64 0, .int .i64 nm, .int .i64 nn, .slice av bs.length cv, .slice ak ks.length ck] 40)).heap.size = W.heap.size + 1 := by simp
  have hT0 := h.below hX0
  rw [hzX] at hT0
  have hT : Two (boxZ Z W) (W.alloc (.cells #[.int .i64 0, .int .i64 nm, .int .i64 nn, .slice av bs.length cv, .slice ak ks.length ck] 40)) B bd br m S S := hT0
  have hTd : Two (boxZ Z W) (W.alloc (.cells #[.int .i64 0, .int .i64 nm, .int .i64 nn, .slice av bs.length cv, .slice ak ks.length ck] 40)).drew B bd br m S S := hT.keeps (F := fun _ => False) (Keeps.refl _ _).drew (fun _ h => h.elim)
  have kX : Keeps (fun _ => False) W (W.alloc (.cells #[.int .i64 0, .int .i64 nm, .int .i64 nn, .slice av bs.length cv, .slice ak ks.length ck] 40)) := (Keeps.refl _ _).alloc _
  have bx := Blk.new W #[.int .i64 0, .int .i64 nm, .int .i64 nn, .slice av bs.length cv, .slice ak ks.length ck] 40
  have c0 : (W.alloc (.cells #[.int .i64 0, .int .i64 nm, .int .i64 nn, .slice av bs.length cv, .slice ak ks.length ck] 40)).cell? ⟨W.heap.size, 0, none⟩ = some (.int .i64 0) := bx.cell 0
  have c1 : (W.alloc (.cells #[.int .i64 0, .int .i64 nm, .int .i64 nn, .slice av bs.length cv, .slice ak ks.length ck] 40)).cell? ⟨W.heap.size, 1, none⟩ = some (.int .i64 nm) := bx.cell 1
  have c2 : (W.alloc (.cells #[.int .i64 0, .int .i64 nm, .int .i64 nn, .slice av bs.length cv, .slice ak ks.length ck] 40)).cell? ⟨W.heap.size, 2, none⟩ = some (.int .i64 nn) := bx.cell 2
  have c3 : (W.alloc (.cells #[.int .i64 0, .int .i64 nm, .int .i64 nn, .slice av bs.length cv, .slice ak ks.length ck] 40)).cell? ⟨W.heap.size, 3, none⟩ = some (.slice av bs.length cv) := bx.cell 3
  have c4 : (W.alloc (.cells #[.int .i64 0, .int .i64 nm, .int .i64 nn, .slice av bs.length cv, .slice ak ks.length ck] 40)).cell? ⟨W.heap.size, 4, none⟩ = some (.slice ak ks.length ck) := bx.cell 4
  have nz : ¬ (¬ boxZ Z W W.heap.size ∧ B ≤ W.heap.size) := fun h => h.1 (.inr ⟨Nat.le_refl _, by omega⟩)
  have hI := h.disk.inv
  have hs := h.disk.small
  have hU := h.disk.used_le
  have hdoc := doc_of hI hs hM
  have hBs := h.1
  have hbX : Rb (W.alloc (.cells #[.int .i64 0, .int .i64 nm, .int .i64 nn, .slice av bs.length cv, .slice ak ks.length ck] 40)) (.slice av bs.length cv) bs := hb.below hX0 (Nat.le_refl _)
  have hkX : Rd (W.alloc (.cells #[.int .i64 0, .int .i64 nm, .int .i64 nn, .slice av bs.length cv, .slice ak ks.length ck] 40)) (.slice ak ks.length ck) ks := hk.below hX0 (Nat.le_refl _)
  have END := Lib.hid (fun w6 S' => does_end (Z := Z) (W := W) (B := B) (bd := bd) (br := br) (m := m) (S' := S') (w6 := w6) (X := W.alloc (.cells #[.int .i64 0, .int .i64 nm, .int .i64 nn, .slice av bs.length cv, .slice ak ks.length ck] 40)))
  have HT := Lib.hid hT
  have HTD := Lib.hid hTd
  have HKX := Lib.hid kX
  have HBX := Lib.hid bx
  have HRB := Lib.hid hbX
  have HRK := Lib.hid hkX
  have HI := Lib.hid hdoc
  have HS := Lib.hid hs
  have HMAY := Lib.hid hM
  have HINV := Lib.hid hI
  clear hT hTd kX bx hbX hkX hdoc hs hM hX0 hI
  have HM0 := Lib.hid (show ∀ v4 w4, Own w4 5 1 v4 bs.length (byt bs) → (W.alloc (.cells #[.int .i64 0, .int .i64 nm, .int .i64 nn, .slice av bs.length cv, .slice ak ks.length ck] 40)).drew.grownBy w4 none → (∀ k, v4.ownBlock = some k → (W.alloc (.cells #[.int .i64 0, .int .i64 nm, .int .i64 nn, .slice av bs.length cv, .slice ak ks.length ck] 40)).drew.heap.size ≤ k) → Keeps (fun _ => False) (W.alloc (.cells #[.int .i64 0, .int .i64 nm, .int .i64 nn, .slice av bs.length cv, .slice ak ks.length ck] 40)).drew w4 ∧ Calls Try.prog 11 #[.pointer (some ⟨bd, 0, none⟩), .int .i64 nm, v4] w4 fun e w5 => e = .returned (.int .i64 (S.append nm bs).2) ∧ Two (boxZ Z W) w5 B bd br (m + 1) (S.append nm bs).1 S ∧ Keeps (fun q => ¬ boxZ Z W q ∧ B ≤ q) (W.alloc (.cells #[.int .i64 0, .int .i64 nm, .int .i64 nn, .slice av bs.length cv, .slice ak ks.length ck] 40)).drew w5 from fun v4 w4 h1 h2 h3 => by
    have k4 := keeps_grown (Keeps.refl (fun _ => False) (W.alloc (.cells #[.int .i64 0, .int .i64 nm, .int .i64 nn, .slice av bs.length cv, .slice ak ks.length ck] 40)).drew) h2
    have hb4 : Below (W.alloc (.cells #[.int .i64 0, .int .i64 nm, .int .i64 nn, .slice av bs.length cv, .slice ak ks.length ck] 40)).drew.heap.size (W.alloc (.cells #[.int .i64 0, .int .i64 nm, .int .i64 nn, .slice av bs.length cv, .slice ak ks.length ck] 40)).drew w4 := k4.below (fun _ h => h.elim) (Nat.le_refl _)
    have hT4 := HTD.out.below hb4
    refine ⟨k4, (td_append hT4 hm n1 (own_rb h1) hbl (fun h0 k hk => .inr (.inr ⟨h3 k hk, own_lt h1 hk⟩))).mono (fun e w5 hp => ⟨hp.1, hp.2.1.less (fun q hq => .inl hq), (k4.mono (fun _ h => h.elim)).trans' (hp.2.2.mono (fun q hq => ⟨fun hz => hq.1 (.inl hz), hq.2⟩))⟩)⟩)
  have HR := Lib.hid (fun w5 (h5 : Two (boxZ Z W) w5 B bd br (m + 1) (S.append nm bs).1 S) (k5 : Keeps (fun q => ¬ boxZ Z W q ∧ B ≤ q) (W.alloc (.cells #[.int .i64 0, .int .i64 nm, .int .i64 nn, .slice av bs.length cv, .slice ak ks.length ck] 40)).drew w5) => tr_append h5 HI.out HS.out hm hU (n := nm) (HRB.out.drew.keeps' k5 hbB) hbl (fun h0 k hk => .inl (hbB h0 k hk)))
  clear h hT0 hb hk
  go_enter Try.func23, Try.ntmps23
  go_wp2_with fail
  refine start_ (n := 15) (S := fun w' => w'.cell? ⟨W.heap.size, 1, none⟩ = some (.int .i64 nm) ∧ w'.cell? ⟨W.heap.size, 3, none⟩ = some (.slice av bs.length cv)) (ds := []) #[false, false, false, false, false, false, false, false, false, false, false, false, false, false, false] (by kernel_rfl) rfl rfl ⟨c1, c3⟩ (fun hHeld => ?_)
  refine pure_ (i := 0) (N := some 17) (v := ?_) (a' := ?_) #[true, false, false, false, false, false, false, false, false, false, false, false, false, false, false] rfl rfl (by kernel_rfl) (fun _ _ _ h => h) (Or.inl ⟨by rfl, ?_⟩) ?_ ?_
  rotate_left
  · intro w'
    go_simp
    with_reducible rfl
  rotate_left
  · simp only [Act.put, List.setIfInBounds_toArray, List.set_cons_zero, List.set_cons_succ, i64_w, i32_w]
    rfl
  refine pure_ (i := 1) (N := some 18) (v := ?_) (a' := ?_) #[true, true, false, false, false, false, false, false, false, false, false, false, false, false, false] rfl rfl (by kernel_rfl) (fun _ _ _ h => h) (Or.inl ⟨by rfl, ?_⟩) ?_ ?_
  rotate_left
  · intro w'
    go_simp
    with_reducible rfl
  rotate_left
  · simp only [Act.put, List.setIfInBounds_toArray, List.set_cons_zero, List.set_cons_succ, i64_w, i32_w]
    rfl
  refine pure_ (i := 3) (N := some 20) (v := ?_) (a' := ?_) #[true, true, false, true, false, false, false, false, false, false, false, false, false, false, false] rfl rfl (by kernel_rfl) (fun _ _ _ h => h) (Or.inl ⟨by rfl, ?_⟩) ?_ ?_
  rotate_left
  · intro w'
    go_simp
    with_reducible rfl
  rotate_left
  · simp only [Act.put, List.setIfInBounds_toArray, List.set_cons_zero, List.set_cons_succ, i64_w, i32_w]
    rfl
  refine pure_ (i := 7) (N := some 24) (v := ?_) (a' := ?_) #[true, true, false, true, false, false, false, true, false, false, false, false, false, false, false] rfl rfl (by kernel_rfl) (fun _ _ _ h => h) (Or.inl ⟨by rfl, ?_⟩) ?_ ?_
  rotate_left
  · intro w'
    go_simp
    with_reducible rfl
  rotate_left
  · simp only [Act.put, List.setIfInBounds_toArray, List.set_cons_zero, List.set_cons_succ, i64_w, i32_w]
    rfl
  refine pure_ (i := 8) (N := some 25) (v := ?_) (a' := ?_) #[true, true, false, true, false, false, false, true, true, false, false, false, false, false, false] rfl rfl (by kernel_rfl) (fun _ _ _ h => h) (Or.inl ⟨by rfl, ?_⟩) ?_ ?_
  rotate_left
  · intro w'
    go_simp
    with_reducible rfl
  rotate_left
  · simp only [Act.put, List.setIfInBounds_toArray, List.set_cons_zero, List.set_cons_succ, i64_w, i32_w]
    rfl
  refine pure_ (i := 10) (N := some 27) (v := ?_) (a' := ?_) #[true, true, false, true, false, false, false, true, true, false, true, false, false, false, false] rfl rfl (by kernel_rfl) (fun _ _ _ h => h) (Or.inl ⟨by rfl, ?_⟩) ?_ ?_
  rotate_left
  · intro w'
    go_simp
    with_reducible rfl
  rotate_left
  · simp only [Act.put, List.setIfInBounds_toArray, List.set_cons_zero, List.set_cons_succ, i64_w, i32_w]
    rfl
  refine take_ (i := 2) (N := some 19) (v := ?_) (a' := ?_) #[true, true, true, true, false, false, false, true, true, false, true, false, false, false, false] rfl rfl (by kernel_rfl) (fun _ _ _ h => h) (Or.inl ⟨by rfl, ?_⟩) hHeld ?_ ?_
  rotate_left
  · rintro w' ⟨s0, s1⟩
    go_simp
    with_reducible rfl
  rotate_left
  · simp only [Act.put, List.setIfInBounds_toArray, List.set_cons_zero, List.set_cons_succ, i64_w, i32_w]
    rfl
  refine take_ (i := 4) (N := some 21) (v := ?_) (a' := ?_) #[true, true, true, true, true, false, false, true, true, false, true, false, false, false, false] rfl rfl (by kernel_rfl) (fun _ _ _ h => h) (Or.inl ⟨by rfl, ?_⟩) hHeld ?_ ?_
  rotate_left
  · rintro w' ⟨s0, s1⟩
    go_simp
    with_reducible rfl
  rotate_left
  · simp only [Act.put, List.setIfInBounds_toArray, List.set_cons_zero, List.set_cons_succ, i64_w, i32_w]
    rfl
  refine take_ (i := 9) (N := some 26) (v := ?_) (a' := ?_) #[true, true, true, true, true, false, false, true, true, true, true, false, false, false, false] rfl rfl (by kernel_rfl) (fun _ _ _ h => h) (Or.inl ⟨by rfl, ?_⟩) hHeld ?_ ?_
  rotate_left
  · rintro w' ⟨s0, s1⟩
    go_simp
    with_reducible rfl
  rotate_left
  · simp only [Act.put, List.setIfInBounds_toArray, List.set_cons_zero, List.set_cons_succ, i64_w, i32_w]
    rfl
  refine take_ (i := 11) (N := some 28) (v := ?_) (a' := ?_) #[true, true, true, true, true, false, false, true, true, true, true, true, false, false, false] rfl rfl (by kernel_rfl) (fun _ _ _ h => h) (Or.inl ⟨by rfl, ?_⟩) hHeld ?_ ?_
  rotate_left
  · rintro w' ⟨s0, s1⟩
    go_simp
    with_reducible rfl
  rotate_left
  · simp only [Act.put, List.setIfInBounds_toArray, List.set_cons_zero, List.set_cons_succ, i64_w, i32_w]
    rfl
  refine one_ (i := 5) (N := some 22) #[true, true, true, true, true, true, false, true, true, true, true, true, false, false, false] rfl rfl (by kernel_rfl) (by decide) (fun K hK => ?_)
  refine append_b_ rfl rfl _ _ rfl (.slice none 0 0) [] rfl (World.ownsRow_nil ..) (.slice av bs.length cv) bs rfl HRB.out.drew (by simp only [List.length_nil]; omega) ?_
  intro v4 w4 hO4 hg4 hat4
  rw [List.nil_append] at hO4
  obtain ⟨k4, hA4⟩ := HM0.out v4 w4 hO4 hg4 (fun k hk => (hat4 k hk).elim (fun h => by simp [Value.ownBlock] at h) id)
  have HA4 := Lib.hid hA4
  obtain ⟨a4, c4x, e4⟩ := own_shape hO4
  subst e4
  try clear hHeld
  refine hK.out _ _ ⟨(k4.cellSome (fun h => h) c1), (k4.cellSome (fun h => h) c3)⟩ (fun hHeld => ?_)
  clear hK K
  refine norm_ (a' := ?_) ?_ ?_
  rotate_left
  · show Act.put _ (some 22) _ = _
    simp only [Act.put, List.setIfInBounds_toArray, List.set_cons_zero, List.set_cons_succ, i64_w, i32_w]
    rfl
  refine one_ (i := 6) (N := some 23) #[true, true, true, true, true, true, true, true, true, true, true, true, false, false, false] rfl rfl (by kernel_rfl) (by decide) (fun K hK => ?_)
  refine goes_ Try.func11 (by kernel_rfl) rfl #[.pointer (some ⟨bd, 0, none⟩), .int .i64 nm, .slice a4 bs.length c4x] (by rfl) rfl rfl (by simp only [List.map_toArray, List.map_cons, List.map_nil]; rfl) ?_
  with_reducible refine (HA4.out).mono ?_
  rintro e w5 ⟨rfl, hT5, hK5⟩
  refine ⟨_, rfl, ?_⟩
  have HR5 := Lib.hid (HR.out w5 hT5 hK5)
  try clear hHeld
  refine hK.out _ _ ⟨(hK5.cellSome nz c1), (hK5.cellSome nz c3)⟩ (fun hHeld => ?_)
  clear hK K
  refine norm_ (a' := ?_) ?_ ?_
  rotate_left
  · show Act.put _ (some 23) _ = _
    simp only [Act.put, List.setIfInBounds_toArray, List.set_cons_zero, List.set_cons_succ, i64_w, i32_w]
    rfl
  refine one_ (i := 12) (N := some 29) #[true, true, true, true, true, true, true, true, true, true, true, true, true, false, false] rfl rfl (by kernel_rfl) (by decide) (fun K hK => ?_)
  refine goes_ Try.func41 (by kernel_rfl) rfl #[.pointer (some ⟨br, 0, none⟩), .int .i64 nm, .slice av bs.length cv] (by rfl) rfl rfl (by simp only [List.map_toArray, List.map_cons, List.map_nil]; rfl) ?_
  with_reducible refine (HR5.out).mono ?_
  rintro e w6 ⟨rfl, hT6, hK6⟩
  refine ⟨_, rfl, ?_⟩
  try clear hHeld
  refine hK.out _ _ ⟨(hK6.cellSome nz (hK5.cellSome nz c1)), (hK6.cellSome nz (hK5.cellSome nz c3))⟩ (fun hHeld => ?_)
  clear hK K
  refine norm_ (a' := ?_) ?_ ?_
  rotate_left
  · show Act.put _ (some 29) _ = _
    simp only [Act.put, List.setIfInBounds_toArray, List.set_cons_zero, List.set_cons_succ, i64_w, i32_w]
    rfl
  refine pure_ (i := 13) (N := some 30) (v := ?_) (a' := ?_) #[true, true, true, true, true, true, true, true, true, true, true, true, true, true, false] rfl rfl (by kernel_rfl) (fun _ _ _ h => h) (Or.inl ⟨by rfl, ?_⟩) ?_ ?_
  rotate_left
  · intro w'
    go_simp
    with_reducible rfl
  rotate_left
  · simp only [Act.put, List.setIfInBounds_toArray, List.set_cons_zero, List.set_cons_succ, i64_w, i32_w]
    rfl
  refine pure_ (i := 14) (N := some 6) (v := ?_) (a' := ?_) #[true, true, true, true, true, true, true, true, true, true, true, true, true, true, true] rfl rfl (by kernel_rfl) (fun _ _ _ h => h) (Or.inl ⟨by rfl, ?_⟩) ?_ ?_
  rotate_left
  · intro w'
    go_simp
    with_reducible rfl
  rotate_left
  · simp only [Act.put, List.setIfInBounds_toArray, List.set_cons_zero, List.set_cons_succ, i64_w, i32_w]
    rfl
  try clear hHeld
  refine done_ (by kernel_rfl) ?_
  go_wp2_with fail
  go_ret
  have F := END.out w6 _ hT6 (may_append HMAY.out nm bs) HKX.out (((Keeps.refl _ _).drew.trans' hK5).trans' hK6)
  simpa using F
end
end Go.Proofs.Ytpckjinlopmbcaa
