/-
  Few calls.
-/
import Derived.Test.YtpckjinlopmbcaaFsO
namespace Go.Proofs.Ytpckjinlopmbcaa
set_option linter.unusedVariables false
set_option maxRecDepth 100000
set_option linter.unusedSimpArgs false
open Go.RowKit
def FewF (len : Nat) (f : Nat → OpF) : Prop := len ≤ 150 ∧ ∀ (j : Nat), j < len → (f j).b.length ≤ 300 ∧ (f j).keep.length ≤ 300
set_option maxHeartbeats 1600000 in
theorem f_few {w : World} {a : Option Addr} {len cap : Nat} {f : Nat → OpF} {vb vk : Nat → Value} (h : IsOpsF w a len f vb vk) (hl : len ≤ 9223372036854775807) :
    Calls Try.prog 17 #[.slice a len cap] w fun e w' => ∃ r : Bool, e = .returned (.bool r) ∧ (r = true → FewF len f) ∧ Below w.heap.size w w' := by
  by_cases h100 : 150 < len
  · have d0 : decide (150 < len) = true := decide_eq_true h100
    have d1 : decide ((150 : Int) < len) = true := decide_eq_true (by omega)
    go_enter Try.func17, Try.ntmps17
    go_wp2_with fail
    go_ret
    exact ⟨false, rfl, (fun h => by cases h), Below.refl _ _⟩
  · have d0 : decide (150 < len) = false := decide_eq_false h100
    have d1 : decide ((150 : Int) < len) = false := decide_eq_false (by omega)
    go_enter Try.func17, Try.ntmps17
    go_wp2_with fail
    go_loopw [3] (fun iv wr => ∃ k : Nat, k ≤ len ∧ iv = .int .i64 k ∧ Below w.heap.size w wr ∧ ∀ (j : Nat), j < k → (f j).b.length ≤ 300 ∧ (f j).keep.length ≤ 300) (fun iv _ => len - (intOf iv).toNat)
    case atStart => exact ⟨0, by omega, rfl, Below.refl _ _, fun j hj => by omega⟩
    case round =>
      obtain ⟨k, hk, rfl, hB, hall⟩ := hrel
      have HB := Lib.hid hB
      have HALL := Lib.hid hall
      by_cases hlt : k < len
      · obtain ⟨b, o, rfl, hlb, hc⟩ := h.below hB (Nat.le_refl _) (by omega)
        obtain ⟨-, -, -, c3, c4, hrb, hrk, -, -⟩ := hc k hlt
        obtain ⟨av, cv, ev, -⟩ := id hrb
        obtain ⟨ak, ck, ek, -⟩ := id hrk
        rw [ev] at c3
        rw [ek] at c4
        have d2 : decide ((k : Int) < len) = true := decide_eq_true (by omega)
        have i1 : (0 : Int) ≤ (k : Int) := by omega
        have i2 : (k : Int) < (len : Int) := by omega
        have i64k : IntKind.i64.wrap ((k : Int) + 1) = (k : Int) + 1 := IntWalk.i64_in _ (by omega)
        clear hB hall hc hrb hrk ev ek
        by_cases h3 : 300 < (f k).b.length
        · have d3 : decide (300 < (f k).b.length) = true := decide_eq_true h3
          have d4 : decide ((300 : Int) < (f k).b.length) = true := decide_eq_true (by omega)
          go_wp2_with fail
          go_ret
          exact ⟨false, rfl, (fun h => by cases h), HB.out⟩
        · have d3 : decide (300 < (f k).b.length) = false := decide_eq_false h3
          have d4 : decide ((300 : Int) < (f k).b.length) = false := decide_eq_false (by omega)
          by_cases h5 : 300 < (f k).keep.length
          · have d5 : decide (300 < (f k).keep.length) = true := decide_eq_true h5
            have d6 : decide ((300 : Int) < (f k).keep.length) = true := decide_eq_true (by omega)
            go_wp2_with fail
            go_ret
            exact ⟨false, rfl, (fun h => by cases h), HB.out⟩
          · have d5 : decide (300 < (f k).keep.length) = false := decide_eq_false h5
            have d6 : decide ((300 : Int) < (f k).keep.length) = false := decide_eq_false (by omega)
            go_wp2_with fail
            go_roundw
            case rel =>
              refine ⟨k + 1, by omega, by go_num, HB.out, fun j hj => ?_⟩
              rcases Nat.lt_or_ge j k with g | g
              · exact HALL.out j g
              · have : j = k := by omega
                subst this; omega
            case measure => simp [intOf]; omega
      · have hkl : k = len := by omega
        subst hkl
        have d2 : decide ((k : Int) < k) = false := decide_eq_false (by omega)
        clear hB hall
        go_wp2_with fail
        go_ret
        exact ⟨true, rfl, fun _ => ⟨by omega, HALL.out⟩, HB.out⟩
end Go.Proofs.Ytpckjinlopmbcaa
