/-
  Layer 14: the chapter's example ('awake') is true.
-/
import Derived.Test.YtjbmfmhibmnaiaaMachN
namespace Go.Proofs.Ytjbmfmhibmnaiaa
set_option linter.unusedVariables false
set_option linter.unusedSimpArgs false
open Go.RowKit

/-- The function returns b; what was there stays. -/
def Tells (w : World) (b : Bool) (e : Ending) (w' : World) : Prop := e = .returned (.bool b) ∧ Below w.heap.size w w'

theorem grow_ge {B n : Nat} {F F' : Nat → Prop} (h1 : ∀ k, F k → B ≤ k) (h2 : ∀ k, F' k → F k ∨ n ≤ k) (hB : B ≤ n) : ∀ k, F' k → B ≤ k := fun k hk => by
  rcases h2 k hk with h | h
  · exact h1 k h
  · omega

theorem aw1 : (⟨[] ++ List.replicate (if (2 : Int) ≤ 1048576 then (2 : Int).toNat else 0) 0, List.replicate (2 : Int).toNat 0⟩ : MS) = ⟨[0, 0], [0, 0]⟩ := by decide
theorem aw2 : ((⟨[0, 0], [0, 0]⟩ : MS).step 0).put 1 (wrap64 ((⟨[0, 0], [0, 0]⟩ : MS).get 1 + 5)) = ⟨[0, 5], [1, 0]⟩ := by decide +kernel
theorem aw3 : (⟨[0, 0], [0, 0]⟩ : MS).get 1 = 0 := by decide
theorem aw4 : (⟨[0, 5], [1, 0]⟩ : MS).swap 1 1 5 7 = ⟨[0, 7], [1, 1]⟩ := by decide +kernel
theorem aw5 : (⟨[0, 5], [1, 0]⟩ : MS).swaps 1 5 = true := by decide
theorem aw6 : (⟨[0, 7], [1, 1]⟩ : MS).step 0 = ⟨[0, 7], [2, 1]⟩ := by decide +kernel
theorem aw7 : (⟨[0, 7], [1, 1]⟩ : MS).get 1 = 7 := by decide
theorem aw8 : (⟨[0, 7], [2, 1]⟩ : MS).stepsOf 0 = 2 := by decide

set_option maxHeartbeats 1600000 in
theorem awake14 (w : World) : Calls Try.prog 9 #[] w (Tells w true) := by
  go_enter Try.func9, Try.ntmps9
  go_wp2_with fail
  refine (mach_new w 2 (by omega)).mono ?_
  rintro e w1 ⟨bm, vs, rfl, hM1, hK1, hF1⟩
  have H1 := Lib.hid hF1
  clear hF1
  go_wp2_with fail
  refine (mach_cells hM1 2 (by simp)).mono ?_
  rintro e w2 ⟨rfl, vc, hM2, hK2, hF2⟩
  have H2 := Lib.hid hF2
  rw [aw1] at hM2
  clear hF2
  have c3 := mach_add hM2 0 1 5
  rw [aw2, aw3] at c3
  have H3 := Lib.hid c3
  clear c3
  go_wp2_with fail
  refine H3.out.mono ?_
  rintro e w3 ⟨rfl, hM3, hK3⟩
  have c4 := mach_swap hM3 1 1 5 7
  rw [aw4, aw5] at c4
  have H4 := Lib.hid c4
  clear c4
  go_wp2_with fail
  refine H4.out.mono ?_
  rintro e w4 ⟨rfl, hM4, hK4⟩
  have c5 := mach_read hM4 0 1
  rw [aw6, aw7] at c5
  have H5 := Lib.hid c5
  clear c5
  go_wp2_with fail
  refine H5.out.mono ?_
  rintro e w5 ⟨rfl, hM5, hK5⟩
  have c6 := mach_steps hM5 0
  rw [aw8] at c6
  have H6 := Lib.hid c6
  clear c6
  have H7 := Lib.hid (mach_len hM5)
  go_wp2_with fail
  refine H6.out.mono ?_
  rintro e w6 ⟨rfl, rfl⟩
  go_wp2_with fail
  refine H7.out.mono ?_
  rintro e w7 ⟨rfl, rfl⟩
  go_wp2
  go_ret
  have g2 := grow_ge H1.out H2.out hK1.size
  have s1 := hK1.size
  have s2 := hK2.size
  have s3 := hK3.size
  have s4 := hK4.size
  exact ⟨rfl, ((((hK1.below (by simp) (Nat.le_refl _)).trans (hK2.below H1.out s1)).trans (hK3.below g2 (by omega))).trans (hK4.below g2 (by omega))).trans (hK5.below g2 (by omega))⟩
end Go.Proofs.Ytjbmfmhibmnaiaa
