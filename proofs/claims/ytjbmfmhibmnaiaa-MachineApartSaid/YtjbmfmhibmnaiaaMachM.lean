/-
  Package machine: its methods' contracts.
-/
import Derived.Test.YtjbmfmhibmnaiaaMachW
namespace Go.Proofs.Ytjbmfmhibmnaiaa
set_option linter.unusedVariables false
set_option linter.unusedSimpArgs false
open Go.RowKit

theorem Mach.cellAt {w : World} {bm gc n cc : Nat} {vs : Value} {M : MS} (h : Mach w bm (.slice (some ⟨gc, 0, none⟩) n cc) vs M) {q : Nat} (hq : q < M.cells.length) :
    w.cell? ⟨gc, q, none⟩ = some (.int .i64 (M.cells.getD q 0)) ∧ w.frozen? ⟨gc, q, none⟩ = false := by
  have hn : n = M.cells.length := by
    obtain ⟨a, c, e⟩ := h.ofLenC
    simp at e; omega
  subst hn
  exact ⟨by rw [World.ownsRow.cellAt h.cells q (by omega), ints_get _ _ hq], World.ownsRow.frozenAt h.cells q⟩

theorem Mach.newNot {w : World} {bm : Nat} {vc vs : Value} {M : MS} (h : Mach w bm vc vs M) {k : Nat} (hk : w.heap.size ≤ k) : ¬ machF bm vc vs k := fun hf => by
  have := h.lt hf
  omega

theorem call_write (args : Array Value) (W : World) : (callFunc 36 args).run Try.prog W = .ok (.enter 36 args) W := by
  go_simp
theorem call_add (args : Array Value) (W : World) : (callFunc 35 args).run Try.prog W = .ok (.enter 35 args) W := by
  go_simp
theorem call_swap (args : Array Value) (W : World) : (callFunc 33 args).run Try.prog W = .ok (.enter 33 args) W := by
  go_simp

/-- What a method leaves: the machine, all else as it was, and its own variable's cell. -/
def After (w : World) (bm : Nat) (vc vs : Value) (M : MS) (b : Nat) (v : Value) (w' : World) : Prop :=
  Mach w' bm vc vs M ∧ Keeps (machF bm vc vs) w w' ∧ w'.cell? ⟨b, 0, none⟩ = some v ∧ w'.frozen? ⟨b, 0, none⟩ = false

set_option maxHeartbeats 800000 in
theorem mach_read {w : World} {bm : Nat} {vc vs : Value} {M : MS} (h : Mach w bm vc vs M) (p c : Int) :
    Calls Try.prog 13 #[.pointer (some ⟨bm, 0, none⟩), .int .i64 p, .int .i64 c] w fun e w' =>
      e = .returned (.int .i64 (M.get c)) ∧ Mach w' bm vc vs (M.step p) ∧ Keeps (machF bm vc vs) w w' := by
  have hm := hmf
  have hnew : ¬ machF bm vc vs w.heap.size := h.newNot (Nat.le_refl _)
  by_cases hc : M.has c
  · obtain ⟨gc, cc, q, n0, rfl, hq, rfl, hcc, hcf, hcl, hcb, hget, hput⟩ := h.viewC hc
    rw [hget]
    have ACC := mach_access_in (h.alloc (.cells #[.int .i64 0] 3)) p gc _ cc q rfl hq 34 #[.pointer (some ⟨w.heap.size, 0, none⟩)] (After w bm _ vs (M.step p) w.heap.size (.int .i64 n0)) call_read (by
      intro W hW kW
      have hcW : W.cell? ⟨gc, q, none⟩ = some (.int .i64 n0) := by
        rw [(hW.cellAt (q := q) (by rw [MS.step_cells]; exact hq)).1, MS.step_cells, ← hget, MS.get, if_pos hc, Int.toNat_natCast]
      have hB := (Blk.new w #[.int .i64 0] 3).keeps kW hnew
      refine (cl_read W gc q w.heap.size n0 0 hcW (by rw [hB.cell]; rfl) (hB.frozen 0)).mono ?_
      rintro e w' ⟨rfl, rfl⟩
      have hB' := hB.set 0 (.int .i64 n0)
      exact ⟨rfl, hW.other hnew _, ((((Keeps.refl _ w).alloc _).trans' kW).set w.heap.size 0 (.inr (Nat.le_refl _)) _), by rw [hB'.cell]; rfl, hB'.frozen 0⟩)
    have HA := Lib.hid ACC
    clear ACC h hget hput hc
    go_enter Try.func13, Try.ntmps13
    go_wp2_with fail
    refine HA.out.mono ?_
    rintro e w' ⟨rfl, hM, hK, hc1, hf1⟩
    go_wp2
    have hc2 := World.cell?_setCell_same w' ⟨w.heap.size, 0, none⟩ (.int .i64 n0) hc1
    exact bodyPost_ret (v := .int .i64 n0) (by simp [results, Try.results13, go_sem, hc2]) rfl ⟨rfl, hM.other hnew _, hK.set w.heap.size 0 (.inr (Nat.le_refl _)) _⟩
  · have hget : M.get c = 0 := by unfold MS.get; rw [if_neg hc]
    rw [hget]
    have ACC := mach_access_out (h.alloc (.cells #[.int .i64 0] 3)) p c (.func (Fn.func 34) #[] #[.pointer (some ⟨w.heap.size, 0, none⟩)]) hc
    have HA := Lib.hid ACC
    clear ACC h hget hc
    go_enter Try.func13, Try.ntmps13
    go_wp2_with fail
    refine HA.out.mono ?_
    rintro e w' ⟨rfl, hM, hK⟩
    have hB := (Blk.new w #[.int .i64 0] 3).keeps hK hnew
    have hc1 : w'.cell? ⟨w.heap.size, 0, none⟩ = some (.int .i64 0) := by rw [hB.cell]; rfl
    have hf1 := hB.frozen 0
    go_wp2
    have hc2 := World.cell?_setCell_same w' ⟨w.heap.size, 0, none⟩ (.int .i64 0) hc1
    exact bodyPost_ret (v := .int .i64 0) (by simp [results, Try.results13, go_sem, hc2]) rfl ⟨rfl, hM.other hnew _, (((Keeps.refl _ w).alloc _).trans' hK).set w.heap.size 0 (.inr (Nat.le_refl _)) _⟩

set_option maxHeartbeats 800000 in
theorem mach_write {w : World} {bm : Nat} {vc vs : Value} {M : MS} (h : Mach w bm vc vs M) (p c n : Int) :
    Calls Try.prog 16 #[.pointer (some ⟨bm, 0, none⟩), .int .i64 p, .int .i64 c, .int .i64 n] w fun e w' =>
      e = .returned (.tuple #[]) ∧ Mach w' bm vc vs ((M.step p).put c n) ∧ Keeps (machF bm vc vs) w w' := by
  have hm := hmf
  have hnew : ¬ machF bm vc vs w.heap.size := h.newNot (Nat.le_refl _)
  by_cases hc : M.has c
  · obtain ⟨gc, cc, q, n0, rfl, hq, rfl, hcc, hcf, hcl, hcb, hget, hput⟩ := h.viewC hc
    have ACC := mach_access_in (h.alloc (.cells #[.int .i64 n] 3)) p gc _ cc q rfl hq 36 #[.pointer (some ⟨w.heap.size, 0, none⟩)] (fun w' => Mach w' bm (.slice (some ⟨gc, 0, none⟩) M.cells.length cc) vs ((M.step p).put q n) ∧ Keeps (machF bm (.slice (some ⟨gc, 0, none⟩) M.cells.length cc) vs) w w') call_write (by
      intro W hW kW
      have hcW := hW.cellAt (q := q) (by rw [MS.step_cells]; exact hq)
      have hB := (Blk.new w #[.int .i64 n] 3).keeps kW hnew
      refine (cl_write W gc q w.heap.size _ n hcW.1 hcW.2 (by rw [hB.cell]; rfl)).mono ?_
      rintro e w' ⟨rfl, rfl⟩
      have hp : (M.step p).put q n = { (M.step p) with cells := (M.step p).cells.set q n } := by
        unfold MS.put
        rw [if_pos (by rw [MS.step_has]; exact hc), Int.toNat_natCast]
      rw [hp]
      exact ⟨rfl, hW.storeC q n, (((Keeps.refl _ w).alloc _).trans' kW).set gc q (.inl (.inr (.inl rfl))) _⟩)
    have HA := Lib.hid ACC
    clear ACC h hget hput hc
    go_enter Try.func16, Try.ntmps16
    go_wp2_with fail
    refine HA.out.mono ?_
    rintro e w' ⟨rfl, hM, hK⟩
    go_wp2
    go_end0
    exact ⟨rfl, hM, hK⟩
  · have hp : (M.step p).put c n = M.step p := by unfold MS.put; rw [if_neg (by rw [MS.step_has]; exact hc)]
    rw [hp]
    have ACC := mach_access_out (h.alloc (.cells #[.int .i64 n] 3)) p c (.func (Fn.func 36) #[] #[.pointer (some ⟨w.heap.size, 0, none⟩)]) hc
    have HA := Lib.hid ACC
    clear ACC h hp hc
    go_enter Try.func16, Try.ntmps16
    go_wp2_with fail
    refine HA.out.mono ?_
    rintro e w' ⟨rfl, hM, hK⟩
    go_wp2
    go_end0
    exact ⟨rfl, hM, ((Keeps.refl _ w).alloc _).trans' hK⟩

set_option maxHeartbeats 800000 in
theorem mach_add {w : World} {bm : Nat} {vc vs : Value} {M : MS} (h : Mach w bm vc vs M) (p c n : Int) :
    Calls Try.prog 14 #[.pointer (some ⟨bm, 0, none⟩), .int .i64 p, .int .i64 c, .int .i64 n] w fun e w' =>
      e = .returned (.int .i64 (M.get c)) ∧ Mach w' bm vc vs ((M.step p).put c (wrap64 (M.get c + n))) ∧ Keeps (machF bm vc vs) w w' := by
  have hm := hmf
  have hnew : ¬ machF bm vc vs w.heap.size := h.newNot (Nat.le_refl _)
  have hnew1 : ¬ machF bm vc vs (w.heap.size + 1) := h.newNot (by omega)
  have hA0 := (h.alloc (.cells #[.int .i64 n] 3)).alloc (.cells #[.int .i64 0] 3)
  have kA0 : Keeps (machF bm vc vs) w ((w.alloc (.cells #[.int .i64 n] 3)).alloc (.cells #[.int .i64 0] 3)) := ((Keeps.refl _ w).alloc _).alloc _
  have bn := (Blk.new w #[.int .i64 n] 3).alloc (.cells #[.int .i64 0] 3)
  have bw := Blk.new (w.alloc (.cells #[.int .i64 n] 3)) #[.int .i64 0] 3
  rw [World.size_alloc] at bw
  by_cases hc : M.has c
  · obtain ⟨gc, cc, q, n0, rfl, hq, rfl, hcc, hcf, hcl, hcb, hget, hput⟩ := h.viewC hc
    have ACC := mach_access_in hA0 p gc _ cc q rfl hq 35 #[.pointer (some ⟨w.heap.size + 1, 0, none⟩), .pointer (some ⟨w.heap.size, 0, none⟩)] (After w bm _ vs ((M.step p).put q (wrap64 (n0 + n))) (w.heap.size + 1) (.int .i64 n0)) call_add (by
      intro W hW kW
      have hcW := hW.cellAt (q := q) (by rw [MS.step_cells]; exact hq)
      have hn0 : (M.step p).cells.getD q 0 = n0 := by rw [MS.step_cells, ← hget, MS.get, if_pos hc, Int.toNat_natCast]
      rw [hn0] at hcW
      have hB := bn.keeps kW hnew
      have hB1 := bw.keeps kW hnew1
      refine (cl_add W gc q w.heap.size (w.heap.size + 1) n0 n 0 hcW.1 hcW.2 (by rw [hB.cell]; rfl) (by rw [hB1.cell]; rfl) (hB1.frozen 0) (by omega) (by omega)).mono ?_
      rintro e w' ⟨rfl, rfl⟩
      have hp : (M.step p).put q (wrap64 (n0 + n)) = { (M.step p) with cells := (M.step p).cells.set q (wrap64 (n0 + n)) } := by
        unfold MS.put
        rw [if_pos (by rw [MS.step_has]; exact hc), Int.toNat_natCast]
      rw [hp]
      have hB' := ((hB1.set 0 (.int .i64 n0)).other (a := ⟨gc, q, none⟩) (by show w.heap.size + 1 ≠ gc; omega) (.int .i64 (wrap64 (n0 + n)))).drew
      exact ⟨rfl, ((hW.other hnew1 _).storeC q _).drew, (((kA0.trans' kW).set (w.heap.size + 1) 0 (.inr (by omega)) _).set gc q (.inl (.inr (.inl rfl))) _).drew, by rw [hB'.cell]; rfl, hB'.frozen 0⟩)
    have HA := Lib.hid ACC
    have HN := Lib.hid hget
    rw [hget]
    clear ACC h hget hput hc hA0 kA0 bn bw
    go_enter Try.func14, Try.ntmps14
    go_wp2_with fail
    refine HA.out.mono ?_
    rintro e w' ⟨rfl, hM, hK, hc1, hf1⟩
    go_wp2
    have hc2 := World.cell?_setCell_same w' ⟨w.heap.size + 1, 0, none⟩ (.int .i64 n0) hc1
    exact bodyPost_ret (v := .int .i64 n0) (by simp [results, Try.results14, go_sem, hc2]) rfl ⟨rfl, hM.other hnew1 _, hK.set (w.heap.size + 1) 0 (.inr (by omega)) _⟩
  · have hget : M.get c = 0 := by unfold MS.get; rw [if_neg hc]
    have hp : ∀ n, (M.step p).put c n = M.step p := by intro n; unfold MS.put; rw [if_neg (by rw [MS.step_has]; exact hc)]
    rw [hget, hp]
    have ACC := mach_access_out hA0 p c (.func (Fn.func 35) #[] #[.pointer (some ⟨w.heap.size + 1, 0, none⟩), .pointer (some ⟨w.heap.size, 0, none⟩)]) hc
    have HA := Lib.hid ACC
    have HB := Lib.hid bw
    have HK := Lib.hid kA0
    clear ACC h hget hc hp hA0 kA0 bn bw
    go_enter Try.func14, Try.ntmps14
    go_wp2_with fail
    refine HA.out.mono ?_
    rintro e w' ⟨rfl, hM, hK⟩
    have hB := HB.out.keeps hK hnew1
    have hc1 : w'.cell? ⟨w.heap.size + 1, 0, none⟩ = some (.int .i64 0) := by rw [hB.cell]; rfl
    have hf1 := hB.frozen 0
    go_wp2
    have hc2 := World.cell?_setCell_same w' ⟨w.heap.size + 1, 0, none⟩ (.int .i64 0) hc1
    exact bodyPost_ret (v := .int .i64 0) (by simp [results, Try.results14, go_sem, hc2]) rfl ⟨rfl, hM.other hnew1 _, (HK.out.trans' hK).set (w.heap.size + 1) 0 (.inr (by omega)) _⟩

/-- What a swap leaves. -/
def MS.swap (M : MS) (p c o n : Int) : MS := if M.has c ∧ M.get c = o then (M.step p).put c n else M.step p
def MS.swaps (M : MS) (c o : Int) : Bool := decide (M.has c ∧ M.get c = o)

set_option maxHeartbeats 1600000 in
theorem mach_swap {w : World} {bm : Nat} {vc vs : Value} {M : MS} (h : Mach w bm vc vs M) (p c o n : Int) :
    Calls Try.prog 12 #[.pointer (some ⟨bm, 0, none⟩), .int .i64 p, .int .i64 c, .int .i64 o, .int .i64 n] w fun e w' =>
      e = .returned (.bool (M.swaps c o)) ∧ Mach w' bm vc vs (M.swap p c o n) ∧ Keeps (machF bm vc vs) w w' := by
  have hm := hmf
  have hnew : ¬ machF bm vc vs w.heap.size := h.newNot (Nat.le_refl _)
  have hnew1 : ¬ machF bm vc vs (w.heap.size + 1) := h.newNot (by omega)
  have hnew2 : ¬ machF bm vc vs (w.heap.size + 1 + 1) := h.newNot (by omega)
  have hA0 := ((h.alloc (.cells #[.int .i64 o] 3)).alloc (.cells #[.int .i64 n] 3)).alloc (.cells #[.bool false] 4)
  have kA0 : Keeps (machF bm vc vs) w (((w.alloc (.cells #[.int .i64 o] 3)).alloc (.cells #[.int .i64 n] 3)).alloc (.cells #[.bool false] 4)) := (((Keeps.refl _ w).alloc _).alloc _).alloc _
  have bo := ((Blk.new w #[.int .i64 o] 3).alloc (.cells #[.int .i64 n] 3)).alloc (.cells #[.bool false] 4)
  have bn := (Blk.new (w.alloc (.cells #[.int .i64 o] 3)) #[.int .i64 n] 3).alloc (.cells #[.bool false] 4)
  have bw := Blk.new ((w.alloc (.cells #[.int .i64 o] 3)).alloc (.cells #[.int .i64 n] 3)) #[.bool false] 4
  simp only [World.size_alloc] at bw bn
  by_cases hc : M.has c
  · obtain ⟨gc, cc, q, n0, rfl, hq, rfl, hcc, hcf, hcl, hcb, hget, hput⟩ := h.viewC hc
    have ACC := mach_access_in hA0 p gc _ cc q rfl hq 33 #[.pointer (some ⟨w.heap.size, 0, none⟩), .pointer (some ⟨w.heap.size + 1 + 1, 0, none⟩), .pointer (some ⟨w.heap.size + 1, 0, none⟩)] (After w bm _ vs (M.swap p q o n) (w.heap.size + 1 + 1) (.bool (M.swaps q o))) call_swap (by
      intro W hW kW
      have hcW := hW.cellAt (q := q) (by rw [MS.step_cells]; exact hq)
      have hn0 : (M.step p).cells.getD q 0 = n0 := by rw [MS.step_cells, ← hget, MS.get, if_pos hc, Int.toNat_natCast]
      rw [hn0] at hcW
      have hB := bo.keeps kW hnew
      have hB1 := bn.keeps kW hnew1
      have hB2 := bw.keeps kW hnew2
      by_cases he : n0 = o
      · subst he
        refine (cl_swap_yes W gc q (w.heap.size + 1 + 1) w.heap.size (w.heap.size + 1) n0 n false hcW.1 hcW.2 (by rw [hB.cell]; rfl) (by rw [hB1.cell]; rfl) (by rw [hB2.cell]; rfl) (hB2.frozen 0) (by omega) (by omega)).mono ?_
        rintro e w' ⟨rfl, rfl⟩
        have hp : M.swap p q n0 n = { (M.step p) with cells := (M.step p).cells.set q n } := by
          unfold MS.swap MS.put
          rw [if_pos ⟨hc, hget⟩, if_pos (by rw [MS.step_has]; exact hc), Int.toNat_natCast]
        have hs : M.swaps q n0 = true := by simp [MS.swaps, hc, hget]
        rw [hp, hs]
        have hB' := ((hB2.set 0 (.bool true)).other (a := ⟨gc, q, none⟩) (by show w.heap.size + 1 + 1 ≠ gc; omega) (.int .i64 n)).drew
        exact ⟨rfl, ((hW.other hnew2 _).storeC q _).drew, (((kA0.trans' kW).set (w.heap.size + 1 + 1) 0 (.inr (by omega)) _).set gc q (.inl (.inr (.inl rfl))) _).drew, by rw [hB'.cell]; rfl, hB'.frozen 0⟩
      · refine (cl_swap_no W gc q (w.heap.size + 1 + 1) w.heap.size (w.heap.size + 1) n0 o false (by simpa using he) hcW.1 (by rw [hB.cell]; rfl) (by rw [hB2.cell]; rfl) (hB2.frozen 0)).mono ?_
        rintro e w' ⟨rfl, rfl⟩
        have hp : M.swap p q o n = M.step p := by
          unfold MS.swap
          rw [if_neg (by rw [hget]; exact fun hh => he hh.2)]
        have hs : M.swaps q o = false := by simp [MS.swaps, hget, he]
        rw [hp, hs]
        have hB' := (hB2.set 0 (.bool false)).drew
        exact ⟨rfl, (hW.other hnew2 _).drew, ((kA0.trans' kW).set (w.heap.size + 1 + 1) 0 (.inr (by omega)) _).drew, by rw [hB'.cell]; rfl, hB'.frozen 0⟩)
    have HA := Lib.hid ACC
    clear ACC h hget hput hc hA0 kA0 bo bn bw
    go_enter Try.func12, Try.ntmps12
    go_wp2_with fail
    refine HA.out.mono ?_
    rintro e w' ⟨rfl, hM, hK, hc1, hf1⟩
    go_wp2
    have hc2 := World.cell?_setCell_same w' ⟨w.heap.size + 1 + 1, 0, none⟩ (.bool (M.swaps q o)) hc1
    exact bodyPost_ret (v := .bool (M.swaps q o)) (by simp [results, Try.results12, go_sem, hc2]) rfl ⟨rfl, hM.other hnew2 _, hK.set (w.heap.size + 1 + 1) 0 (.inr (by omega)) _⟩
  · have hs : M.swaps c o = false := by simp [MS.swaps, hc]
    have hp : M.swap p c o n = M.step p := by unfold MS.swap; rw [if_neg (fun hh => hc hh.1)]
    rw [hs, hp]
    have ACC := mach_access_out hA0 p c (.func (Fn.func 33) #[] #[.pointer (some ⟨w.heap.size, 0, none⟩), .pointer (some ⟨w.heap.size + 1 + 1, 0, none⟩), .pointer (some ⟨w.heap.size + 1, 0, none⟩)]) hc
    have HA := Lib.hid ACC
    have HB := Lib.hid bw
    have HK := Lib.hid kA0
    clear ACC h hc hs hp hA0 kA0 bo bn bw
    go_enter Try.func12, Try.ntmps12
    go_wp2_with fail
    refine HA.out.mono ?_
    rintro e w' ⟨rfl, hM, hK⟩
    have hB := HB.out.keeps hK hnew2
    have hc1 : w'.cell? ⟨w.heap.size + 1 + 1, 0, none⟩ = some (.bool false) := by rw [hB.cell]; rfl
    have hf1 := hB.frozen 0
    go_wp2
    have hc2 := World.cell?_setCell_same w' ⟨w.heap.size + 1 + 1, 0, none⟩ (.bool false) hc1
    exact bodyPost_ret (v := .bool false) (by simp [results, Try.results12, go_sem, hc2]) rfl ⟨rfl, hM.other hnew2 _, (HK.out.trans' hK).set (w.heap.size + 1 + 1) 0 (.inr (by omega)) _⟩

end Go.Proofs.Ytjbmfmhibmnaiaa
