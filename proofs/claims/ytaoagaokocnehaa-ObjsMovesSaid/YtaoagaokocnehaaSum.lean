/-
  Layer 4: sum, of a ledger that may be.
-/
import Derived.Test.YtaoagaokocnehaaStaP
import Derived.Test.YtaoagaokocnehaaSl
namespace Go.Proofs.Ytaoagaokocnehaa
set_option linter.unusedVariables false
set_option linter.unusedSimpArgs false
open Go.RowKit

set_option maxRecDepth 100000 in
set_option maxHeartbeats 3200000 in
theorem sum04 {w : World} {vl : Value} (s : St) (hx : Rd w vl s.L) (hp : pairsB s.L 0 = true) :
    Calls Try.prog 22 #[.agg #[.int .i64 s.kind, vl, .bool s.isSealed, .int .i64 s.to]] w (fun e w' => e = .returned (.int .i64 (sumP s.L)) ∧ Below w.heap.size w w') := by
  obtain ⟨ki, L, b, t⟩ := s
  simp only at hx hp ⊢
  obtain ⟨n, a, c, f, rfl, hn, hnc, hcm, hf, hv⟩ := hx.view
  rw [pairsB_iff] at hp
  obtain ⟨hp1, hp2, hp3⟩ := hp
  have hB : Below w.heap.size w (w.alloc (.cells #[.int .i64 ki, .slice a n c, .bool b, .int .i64 t] 24)) := (Below.refl _ w).alloc (Nat.le_refl _) _
  have HB := Lib.hid hB
  have HV := Lib.hid hv
  have HN := Lib.hid hn
  have HF := Lib.hid hf
  have HP := Lib.hid hp1
  have hn2 : n % 2 = 0 := by rw [hn]; exact hp2
  have hn3 : n ≤ 128 := by rw [hn]; exact hp3
  clear hB hv hn hf hp1 hp2 hp3 hx
  go_enter Try.func22, Try.ntmps22
  go_wp2_with fail
  go_loopw [3, 4] (fun m i wr => ∃ j : Nat, 2 * j ≤ n ∧ i = .int .i64 (2 * (j : Int) + 1) ∧ m = .int .i64 (sumP (L.take (2 * j))) ∧ wr = w.alloc (.cells #[.int .i64 ki, .slice a n c, .bool b, .int .i64 t] 24)) (fun _ i _ => n + 1 - (intOf i).toNat)
  case atStart => exact ⟨0, Nat.zero_le _, rfl, by simp [sumP], rfl⟩
  case round =>
    obtain ⟨j, hj, rfl, rfl, rfl⟩ := hrel
    have h1 := sum_range L (-1) j HP.out
    by_cases hjl : 2 * j + 1 < n
    · obtain ⟨bb, o, rfl, hb, hcells⟩ := HV.out (by omega)
      have hc := hcells (2 * j + 1) hjl
      have h2 := pairs_value L (-1) 0 j HP.out (by rw [← HN.out]; exact hjl)
      have e1 := sum_take L j (by rw [← HN.out]; exact hjl)
      rw [HF.out] at hc
      have E1 := Lib.hid e1
      obtain ⟨h11, h12⟩ := h1
      obtain ⟨h21, h22⟩ := h2
      clear e1 hcells
      generalize L.getD (2 * j + 1) 0 = x at *
      generalize hs : sumP (L.take (2 * j)) = y at *
      have HS := Lib.hid hs
      clear hs
      go_wp2_with fail
      go_roundw
      case rel => exact ⟨j + 1, by omega, by go_num, by rw [E1.out], (by first | trivial | rfl)⟩
      case measure => simp [intOf]; omega
    · have hjn : 2 * j = n := by omega
      have e2 : sumP (L.take (2 * j)) = sumP L := by rw [hjn, HN.out, List.take_length]
      rw [e2] at h1 ⊢
      clear e2
      generalize hs : sumP L = y at *
      have HS := Lib.hid hs
      clear hs
      go_wp2_with fail
      go_ret
      exact ⟨by rw [HS.out]; rfl, HB.out⟩
end Go.Proofs.Ytaoagaokocnehaa
