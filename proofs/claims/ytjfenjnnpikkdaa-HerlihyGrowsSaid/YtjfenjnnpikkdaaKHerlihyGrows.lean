/-
  Layer 15, HerlihyGrows: whatever the state, the processes and the script, the law returns true, and the arguments read as they did. No condition.
-/
import Derived.Test.YtjfenjnnpikkdaaRows
import Derived.WalkKit
import Derived.ProofKit
import Derived.OpenShut
import Derived.ShutString
import Derived.ChangeOld
import Derived.Below
import Derived.Test.YtjfenjnnpikkdaaKd
import Derived.Test.YtjfenjnnpikkdaaKk
import Derived.Test.YtjfenjnnpikkdaaKka
import Derived.Test.YtjfenjnnpikkdaaKkb
set_option linter.unusedVariables false
set_option linter.unusedSimpArgs false
namespace Go.Proofs.Ytjfenjnnpikkdaa
set_option maxRecDepth 100000
open Go.RowKit
open Go.Proofs.YtjfenjnnpikkdaaW.PrintLast

set_option maxRecDepth 100000 in
set_option maxHeartbeats 6400000 in
theorem he_grows {w : World} {vl : Value} (s : St) (hx : Rd w vl s.L) (n : Int) (a : Option Addr) (len cap : Nat) (f : Nat → Nat → Int) (hv : IsOps w a len f 5) (hlc : len ≤ cap) (hcm : cap ≤ 9223372036854775807) (k : Int) :
    Calls Try.prog 11 #[stV s vl, .int .i64 n, .slice a len cap, .int .i64 k] w (Tells w true) := by
  obtain ⟨al, cl, rfl, hcl, hcm2, _⟩ := id hx
  have hb1 : Below w.heap.size w (w.alloc (.cells #[.int .i64 s.kind, .slice al s.L.length cl, .bool s.isSealed, .int .i64 s.to] 24)) := (Below.refl _ _).alloc (Nat.le_refl _) _
  have hS1 := Blk.new w #[.int .i64 s.kind, .slice al s.L.length cl, .bool s.isSealed, .int .i64 s.to] 24
  have HB1 := Lib.hid hb1
  have HX := Lib.hid hx
  have HV := Lib.hid hv
  clear hx hb1 hv
  by_cases hst : mayB s = true ∧ 1 ≤ n ∧ n ≤ 64
  · obtain ⟨n, rfl⟩ := Int.eq_ofNat_of_zero_le (show 0 ≤ n by omega)
    have hlen := may_len hst.1
    have hn1 : 0 < n ∧ n ≤ 64 := by omega
    by_cases hok : s.L.length ≤ 300 ∧ len ≤ 1500
    · skip
      by_cases hk0 : k < 0
      · have dk0 : decide (k < 0) = true := decide_eq_true hk0
        have FW := fun W hx => Lib.hid (he_few (w := W) (vl := .slice al s.L.length cl) s hx a len cap)
        rw [decide_eq_true hok] at FW
        have NW := fun W hx => Lib.hid (he_start (w := W) (vl := .slice al s.L.length cl) s hx (by omega) n hst.1 (by omega) (by omega))
        go_enter Try.func11, Try.ntmps11
        go_wp2_with (first
          | (go_at_call 26; refine (he_up _).mono ?_; rintro e w2 ⟨rfl, hb2⟩; have hS2 := hS1.below hb2 hS1.lt; have HB2 := Lib.hid (HB1.out.trans (hb2.mono (by simp))); have c0 : w2.cell? ⟨w.heap.size, 0, none⟩ = some (.int .i64 s.kind) := hS2.cell 0; have c1 : w2.cell? ⟨w.heap.size, 1, none⟩ = some (.slice al s.L.length cl) := hS2.cell 1; have c2 : w2.cell? ⟨w.heap.size, 2, none⟩ = some (.bool s.isSealed) := hS2.cell 2; have c3 : w2.cell? ⟨w.heap.size, 3, none⟩ = some (.int .i64 s.to) := hS2.cell 3; clear hb2)
          | (go_at_call 27; refine (FW _ (HX.out.below HB2.out (Nat.le_refl _))).out.mono ?_; rintro e w3 ⟨rfl, hb3⟩; have hS3 := hS2.below hb3 hS2.lt; have HB3 := Lib.hid (HB2.out.trans (hb3.mono HB2.out.size)); clear c0 c1 c2 c3; have c0 : w3.cell? ⟨w.heap.size, 0, none⟩ = some (.int .i64 s.kind) := hS3.cell 0; have c1 : w3.cell? ⟨w.heap.size, 1, none⟩ = some (.slice al s.L.length cl) := hS3.cell 1; have c2 : w3.cell? ⟨w.heap.size, 2, none⟩ = some (.bool s.isSealed) := hS3.cell 2; have c3 : w3.cell? ⟨w.heap.size, 3, none⟩ = some (.int .i64 s.to) := hS3.cell 3; clear hb3)
          | (go_at_call 28; refine (NW _ (HX.out.below HB3.out (Nat.le_refl _))).out.mono ?_; rintro e w4 ⟨b, fp, rfl, hR4, hb4⟩; have HB4 := Lib.hid (HB3.out.trans (hb4.mono HB3.out.size)); have hb4s := hb4.size; clear hb4))
        go_ret
        exact ⟨rfl, HB4.out⟩
      · have dk0 : decide (k < 0) = false := decide_eq_false hk0
        by_cases hk1 : (len : Int) < k
        · have dk1 : decide ((len : Int) < k) = true := decide_eq_true hk1
          have FW := fun W hx => Lib.hid (he_few (w := W) (vl := .slice al s.L.length cl) s hx a len cap)
          rw [decide_eq_true hok] at FW
          have NW := fun W hx => Lib.hid (he_start (w := W) (vl := .slice al s.L.length cl) s hx (by omega) n hst.1 (by omega) (by omega))
          go_enter Try.func11, Try.ntmps11
          go_wp2_with (first
            | (go_at_call 26; refine (he_up _).mono ?_; rintro e w2 ⟨rfl, hb2⟩; have hS2 := hS1.below hb2 hS1.lt; have HB2 := Lib.hid (HB1.out.trans (hb2.mono (by simp))); have c0 : w2.cell? ⟨w.heap.size, 0, none⟩ = some (.int .i64 s.kind) := hS2.cell 0; have c1 : w2.cell? ⟨w.heap.size, 1, none⟩ = some (.slice al s.L.length cl) := hS2.cell 1; have c2 : w2.cell? ⟨w.heap.size, 2, none⟩ = some (.bool s.isSealed) := hS2.cell 2; have c3 : w2.cell? ⟨w.heap.size, 3, none⟩ = some (.int .i64 s.to) := hS2.cell 3; clear hb2)
            | (go_at_call 27; refine (FW _ (HX.out.below HB2.out (Nat.le_refl _))).out.mono ?_; rintro e w3 ⟨rfl, hb3⟩; have hS3 := hS2.below hb3 hS2.lt; have HB3 := Lib.hid (HB2.out.trans (hb3.mono HB2.out.size)); clear c0 c1 c2 c3; have c0 : w3.cell? ⟨w.heap.size, 0, none⟩ = some (.int .i64 s.kind) := hS3.cell 0; have c1 : w3.cell? ⟨w.heap.size, 1, none⟩ = some (.slice al s.L.length cl) := hS3.cell 1; have c2 : w3.cell? ⟨w.heap.size, 2, none⟩ = some (.bool s.isSealed) := hS3.cell 2; have c3 : w3.cell? ⟨w.heap.size, 3, none⟩ = some (.int .i64 s.to) := hS3.cell 3; clear hb3)
            | (go_at_call 28; refine (NW _ (HX.out.below HB3.out (Nat.le_refl _))).out.mono ?_; rintro e w4 ⟨b, fp, rfl, hR4, hb4⟩; have HB4 := Lib.hid (HB3.out.trans (hb4.mono HB3.out.size)); have hb4s := hb4.size; clear hb4))
          go_ret
          exact ⟨rfl, HB4.out⟩
        · have dk1 : decide ((len : Int) < k) = false := decide_eq_false hk1
          obtain ⟨k, rfl⟩ := Int.eq_ofNat_of_zero_le (show 0 ≤ k by omega)
          have hkl : k ≤ len := by omega
          have hkc1 : (k : Int) ≤ (cap : Int) := by omega
          have hkc0 : (0 : Int) ≤ (k : Int) := by omega
          have FW := fun W hx => Lib.hid (he_few (w := W) (vl := .slice al s.L.length cl) s hx a len cap)
          rw [decide_eq_true hok] at FW
          have NW := fun W hx => Lib.hid (he_start (w := W) (vl := .slice al s.L.length cl) s hx (by omega) n hst.1 (by omega) (by omega))
          go_enter Try.func11, Try.ntmps11
          go_wp2_with (first
            | (go_at_call 26; refine (he_up _).mono ?_; rintro e w2 ⟨rfl, hb2⟩; have hS2 := hS1.below hb2 hS1.lt; have HB2 := Lib.hid (HB1.out.trans (hb2.mono (by simp))); have c0 : w2.cell? ⟨w.heap.size, 0, none⟩ = some (.int .i64 s.kind) := hS2.cell 0; have c1 : w2.cell? ⟨w.heap.size, 1, none⟩ = some (.slice al s.L.length cl) := hS2.cell 1; have c2 : w2.cell? ⟨w.heap.size, 2, none⟩ = some (.bool s.isSealed) := hS2.cell 2; have c3 : w2.cell? ⟨w.heap.size, 3, none⟩ = some (.int .i64 s.to) := hS2.cell 3; clear hb2)
            | (go_at_call 27; refine (FW _ (HX.out.below HB2.out (Nat.le_refl _))).out.mono ?_; rintro e w3 ⟨rfl, hb3⟩; have hS3 := hS2.below hb3 hS2.lt; have HB3 := Lib.hid (HB2.out.trans (hb3.mono HB2.out.size)); clear c0 c1 c2 c3; have c0 : w3.cell? ⟨w.heap.size, 0, none⟩ = some (.int .i64 s.kind) := hS3.cell 0; have c1 : w3.cell? ⟨w.heap.size, 1, none⟩ = some (.slice al s.L.length cl) := hS3.cell 1; have c2 : w3.cell? ⟨w.heap.size, 2, none⟩ = some (.bool s.isSealed) := hS3.cell 2; have c3 : w3.cell? ⟨w.heap.size, 3, none⟩ = some (.int .i64 s.to) := hS3.cell 3; clear hb3)
            | (go_at_call 28; refine (NW _ (HX.out.below HB3.out (Nat.le_refl _))).out.mono ?_; rintro e w4 ⟨b, fp, rfl, hR4, hb4⟩; have HB4 := Lib.hid (HB3.out.trans (hb4.mono HB3.out.size)); have hb4s := hb4.size; clear hb4))
          have I := heIf n s hn1
          have hz := he_zero n s (by omega)
          have hVk := HV.out.mono HB4.out hkl
          have hab : 0 < k → ∀ ba oa, a = some ⟨ba, oa, none⟩ → ba < w3.heap.size := fun h0 ba oa e => Nat.lt_of_lt_of_le (HV.out.lt (by omega) ba oa e) HB3.out.size
          have hbw : w3.heap.size ≤ w4.heap.size := hb4s
          have HR := Lib.hid (he_run I hR4 hz hbw a k cap f hVk hab (by omega) (by omega))
          have HR4 := Lib.hid hR4
          have hfb : ∀ j, fp j → w3.heap.size ≤ j := fun j hj => (I.lt hR4 j hj).1
          have h34 := HB3.out.size
          clear hR4 hVk hab
          refine HR.out.mono ?_
          rintro e w5 ⟨v5, fp5, rfl, hE5, hO5, hf5, hn5⟩
          rw [runS_E] at hE5
          have hE5 : RunE (heRep n s) w4 w3.heap.size fp b (0 + k) (runG (heLin n s) (evAt f) (heZero n s) k) fp5 w5 := hE5
          have HL := Lib.hid (I.log hE5.rep (by omega))
          have HE5 := Lib.hid hE5
          clear hE5 hO5 hf5 hn5
          go_wp2_with (go_at_call 30; refine HL.out.mono ?_; rintro e w6 ⟨v6, rfl, hO6, hf6, fp6, hR6, hfp6, hn6, hK6⟩; have hE6 := HE5.out.post hR6 hfp6 hK6; have hrd6 := RecRd.of hO6; have hl6m : ((heLin n s).log (runG (heLin n s) (evAt f) (heZero n s) k)).length ≤ 9223372036854775807 := (by obtain ⟨_, _, _, h1, h2⟩ := own_shape2 hO6; simp only [maxLen] at h2; omega); have hn6 : ∀ j, v6.ownBlock = some j → j < w6.heap.size ∧ ¬ fp6 j := fun j hj => ⟨own_lt hO6 hj, hn6 j hj⟩; clear hO6 hf6 hR6 hfp6 hK6)
          obtain ⟨a6, c6, rfl⟩ : ∃ a6 c6, v6 = .slice a6 ((heLin n s).log (runG (heLin n s) (evAt f) (heZero n s) k)).length c6 := by obtain ⟨a, c, e, _⟩ := hrd6; exact ⟨a, c, e⟩
          generalize hlen6 : ((heLin n s).log (runG (heLin n s) (evAt f) (heZero n s) k)).length = l6 at *
          have HE6 := Lib.hid hE6
          have HRD6 := Lib.hid hrd6
          have HN6 := Lib.hid hn6
          have HL6 := Lib.hid hlen6
          clear hE6 hrd6 hn6 hlen6
          rw [Nat.zero_add] at HE6
          go_loopw [14] (fun iv wr => ∃ (i : Nat) (fpi : Nat → Prop), k ≤ i ∧ i ≤ len ∧ iv = .int .i64 i ∧ RunE (heRep n s) w4 w3.heap.size fp b i (runG (heLin n s) (evAt f) (heZero n s) i) fpi wr ∧ RecRd wr (.slice a6 l6 c6) ((heLin n s).log (runG (heLin n s) (evAt f) (heZero n s) k)) ∧ (∀ j, (Value.slice a6 l6 c6).ownBlock = some j → j < wr.heap.size ∧ ¬ fpi j)) (fun iv _ => len - (intOf iv).toNat)
          case atStart => exact ⟨k, fp6, Nat.le_refl _, hkl, rfl, HE6.out, HRD6.out, HN6.out⟩
          case round =>
            obtain ⟨i, fpi, hki, hi, rfl, hE, hrd, hni⟩ := hrel
            clear HE6 HRD6 HN6
            by_cases hlt : i < len
            · have d0 : decide ((i : Int) < len) = true := decide_eq_true (by omega)
              have i1 : (0 : Int) ≤ (i : Int) := by omega
              have i2 : (i : Int) < (len : Int) := by omega
              have i64k : IntKind.i64.wrap ((i : Int) + 1) = (i : Int) + 1 := IntWalk.i64_in _ (by omega)
              obtain ⟨ba, oa, rfl, hba, hcells⟩ := HV.out (by omega)
              have hc4 : ∀ j, j < 5 → wr.cell? ⟨ba, oa + i * 5 + j, none⟩ = some (.int .i64 (f i j)) := fun j hj => hE.keeps.cellSome (fun h => by have := hfb _ h; simp only at this; omega) ((HB4.out.cell (p := ⟨ba, oa + i * 5 + j, none⟩) hba).trans (hcells i j hlt hj))
              have e0 := hc4 0 (by decide)
              have e1 := hc4 1 (by decide)
              have e2 := hc4 2 (by decide)
              have e3 := hc4 3 (by decide)
              have e4 := hc4 4 (by decide)
              rw [Nat.add_zero] at e0
              have hev : runG (heLin n s) (evAt f) (heZero n s) (i + 1) = evG (heLin n s) (runG (heLin n s) (evAt f) (heZero n s) i) ⟨f i 0, f i 1, ⟨f i 2, f i 3, f i 4⟩⟩ := rfl
              have HC := Lib.hid hc4
              have HEV := Lib.hid hev
              have HE := Lib.hid hE
              have HRD := Lib.hid hrd
              have HNI := Lib.hid hni
              have hkeep : ∀ (w' : World) (fp' : Nat → Prop) (E' : _) (m' : Nat), heRep n s w' w3.heap.size fp' b m' E' → (∀ k, k < wr.heap.size → (fp' k ↔ fpi k)) → Keeps fpi wr w' → RunE (heRep n s) w4 w3.heap.size fp b m' E' fp' w' ∧ RecRd w' (.slice a6 l6 c6) ((heLin n s).log (runG (heLin n s) (evAt f) (heZero n s) k)) ∧ (∀ j, (Value.slice a6 l6 c6).ownBlock = some j → j < w'.heap.size ∧ ¬ fp' j) := by
                intro w' fp' E' m' h1 h2 h3
                refine ⟨HE.out.post h1 h2 h3, HRD.out.keeps h3 (fun j hj => (HNI.out j hj).2), fun j hj => ?_⟩
                have h4 := HNI.out j hj
                exact ⟨Nat.lt_of_lt_of_le h4.1 h3.size, by rw [h2 j h4.1]; exact h4.2⟩
              have hk0 : ∀ {w' : World} {fp' : Nat → Prop}, Keeps fpi wr w' → w'.cell? ⟨ba, oa + i * 5, none⟩ = some (.int .i64 (f i 0)) := fun hK => hK.cellSome (p := ⟨ba, oa + i * 5, none⟩) (fun h => by have := (I.lt HE.out.rep _ h).1; simp only at this; omega) e0
              have HKP := Lib.hid hkeep
              clear hc4 hev hE hrd hni hkeep HC
              generalize f i 0 = kd at *
              generalize f i 1 = pp at *
              generalize f i 2 = oc at *
              generalize f i 3 = ox at *
              generalize f i 4 = oy at *
              generalize hEi : runG (heLin n s) (evAt f) (heZero n s) i = Ei at *
              by_cases hz0 : kd = 0
              · subst hz0
                have hs : evG (heLin n s) Ei ⟨0, pp, ⟨oc, ox, oy⟩⟩ = invI (heLin n s) Ei pp ⟨oc, ox, oy⟩ := by unfold evG; rw [if_pos rfl]
                rw [hs] at HEV
                have HI0 := Lib.hid (I.invoke (I.keeps HE.out.rep ((Keeps.refl (fun _ => False) wr).drew) (fun k h => h.elim)) (by omega) pp ⟨oc, ox, oy⟩)
                clear hs
                generalize codeI (heLin n s) Ei pp ⟨oc, ox, oy⟩ = cv at *
                go_wp2_with fail
                refine start_ (n := 12) (S := fun w' => w'.cell? ⟨ba, oa + i * 5 + 1, none⟩ = some (.int .i64 pp) ∧ w'.cell? ⟨ba, oa + i * 5 + 2, none⟩ = some (.int .i64 oc) ∧ w'.cell? ⟨ba, oa + i * 5 + 3, none⟩ = some (.int .i64 ox) ∧ w'.cell? ⟨ba, oa + i * 5 + 4, none⟩ = some (.int .i64 oy)) (ds := [11]) #[false, false, false, false, false, false, false, false, false, false, false, false] (by kernel_rfl) rfl rfl ⟨e1, e2, e3, e4⟩ (fun hHeld => ?_)
                refine pure_ (i := 0) (N := some 72) (v := ?_) (a' := ?_) #[true, false, false, false, false, false, false, false, false, false, false, false] rfl rfl (by kernel_rfl) (fun _ _ _ h => h) (Or.inl ⟨by rfl, ?_⟩) ?_ ?_
                rotate_left
                · intro w'
                  go_simp
                  with_reducible rfl
                rotate_left
                · simp only [Act.put, nA, nB, nC, i64_w, i32_w]
                  rfl
                refine pure_ (i := 1) (N := some 73) (v := ?_) (a' := ?_) #[true, true, false, false, false, false, false, false, false, false, false, false] rfl rfl (by kernel_rfl) (fun _ _ _ h => h) (Or.inl ⟨by rfl, ?_⟩) ?_ ?_
                rotate_left
                · intro w'
                  go_simp
                  with_reducible rfl
                rotate_left
                · simp only [Act.put, nA, nB, nC, i64_w, i32_w]
                  rfl
                refine pure_ (i := 2) (N := some 74) (v := ?_) (a' := ?_) #[true, true, true, false, false, false, false, false, false, false, false, false] rfl rfl (by kernel_rfl) (fun _ _ _ h => h) (Or.inl ⟨by rfl, ?_⟩) ?_ ?_
                rotate_left
                · intro w'
                  go_simp
                  with_reducible rfl
                rotate_left
                · simp only [Act.put, nA, nB, nC, i64_w, i32_w]
                  rfl
                refine pure_ (i := 3) (N := some 75) (v := ?_) (a' := ?_) #[true, true, true, true, false, false, false, false, false, false, false, false] rfl rfl (by kernel_rfl) (fun _ _ _ h => h) (Or.inl ⟨by rfl, ?_⟩) ?_ ?_
                rotate_left
                · intro w'
                  go_simp
                  with_reducible rfl
                rotate_left
                · simp only [Act.put, nA, nB, nC, i64_w, i32_w]
                  rfl
                refine pure_ (i := 4) (N := some 76) (v := ?_) (a' := ?_) #[true, true, true, true, true, false, false, false, false, false, false, false] rfl rfl (by kernel_rfl) (fun _ _ _ h => h) (Or.inl ⟨by rfl, ?_⟩) ?_ ?_
                rotate_left
                · intro w'
                  go_simp
                  with_reducible rfl
                rotate_left
                · simp only [Act.put, nA, nB, nC, i64_w, i32_w]
                  rfl
                refine pure_ (i := 6) (N := some 78) (v := ?_) (a' := ?_) #[true, true, true, true, true, false, true, false, false, false, false, false] rfl rfl (by kernel_rfl) (fun _ _ _ h => h) (Or.inl ⟨by rfl, ?_⟩) ?_ ?_
                rotate_left
                · intro w'
                  go_simp
                  with_reducible rfl
                rotate_left
                · simp only [Act.put, nA, nB, nC, i64_w, i32_w]
                  rfl
                refine pure_ (i := 7) (N := some 79) (v := ?_) (a' := ?_) #[true, true, true, true, true, false, true, true, false, false, false, false] rfl rfl (by kernel_rfl) (fun _ _ _ h => h) (Or.inl ⟨by rfl, ?_⟩) ?_ ?_
                rotate_left
                · intro w'
                  go_simp
                  with_reducible rfl
                rotate_left
                · simp only [Act.put, nA, nB, nC, i64_w, i32_w]
                  rfl
                refine pure_ (i := 8) (N := some 80) (v := ?_) (a' := ?_) #[true, true, true, true, true, false, true, true, true, false, false, false] rfl rfl (by kernel_rfl) (fun _ _ _ h => h) (Or.inl ⟨by rfl, ?_⟩) ?_ ?_
                rotate_left
                · intro w'
                  go_simp
                  with_reducible rfl
                rotate_left
                · simp only [Act.put, nA, nB, nC, i64_w, i32_w]
                  rfl
                refine pure_ (i := 9) (N := some 81) (v := ?_) (a' := ?_) #[true, true, true, true, true, false, true, true, true, true, false, false] rfl rfl (by kernel_rfl) (fun _ _ _ h => h) (Or.inl ⟨by rfl, ?_⟩) ?_ ?_
                rotate_left
                · intro w'
                  go_simp
                  with_reducible rfl
                rotate_left
                · simp only [Act.put, nA, nB, nC, i64_w, i32_w]
                  rfl
                refine take_ (i := 5) (N := some 77) (v := ?_) (a' := ?_) #[true, true, true, true, true, true, true, true, true, true, false, false] rfl rfl (by kernel_rfl) (fun _ _ _ h => h) (Or.inl ⟨by rfl, ?_⟩) hHeld ?_ ?_
                rotate_left
                · rintro w' ⟨s0, s1, s2, s3⟩
                  go_simp
                  with_reducible rfl
                rotate_left
                · simp only [Act.put, nA, nB, nC, i64_w, i32_w]
                  rfl
                refine take_ (i := 10) (N := some 82) (v := ?_) (a' := ?_) #[true, true, true, true, true, true, true, true, true, true, true, false] rfl rfl (by kernel_rfl) (fun _ _ _ h => h) (Or.inl ⟨by rfl, ?_⟩) hHeld ?_ ?_
                rotate_left
                · rintro w' ⟨s0, s1, s2, s3⟩
                  go_simp
                  with_reducible rfl
                rotate_left
                · simp only [Act.put, nA, nB, nC, i64_w, i32_w]
                  rfl
                refine last_ (i := 11) (N := some 83) #[true, true, true, true, true, true, true, true, true, true, true, true] rfl rfl (by kernel_rfl) (by decide) (fun K hK => ?_)
                refine goes_ Try.func33 (by kernel_rfl) rfl #[.pointer (some ⟨b, 0, none⟩), .int .i64 pp, .agg #[.int .i64 oc, .int .i64 ox, .int .i64 oy]] (by rfl) rfl rfl (by simp only [List.map_toArray, List.map_cons, List.map_nil]; rfl) ?_
                with_reducible refine (HI0.out).mono ?_
                rintro e wj ⟨rfl, fpj, hRj, hfpj, hKj⟩
                refine ⟨_, rfl, ?_⟩
                try clear hHeld
                refine hK.out _ _ ?_
                clear hK K
                refine norm_ (a' := ?_) ?_ ?_
                rotate_left
                · show Act.put _ (some 83) _ = _
                  simp only [Act.put, nA, nB, nC, i64_w, i32_w]
                  rfl
                try clear hHeld
                refine done_ (by kernel_rfl) ?_
                have kj : Keeps fpi wr wj := ((Keeps.refl fpi wr).drew).trans' hKj
                have HJ := Lib.hid (HKP.out _ _ _ _ hRj hfpj kj)
                have ej : wj.cell? ⟨ba, oa + i * 5, none⟩ = some (.int .i64 0) := hk0 (fp' := fpj) kj
                clear e0 e1 e2 e3 e4 hRj hfpj hKj kj hk0
                go_wp2_with fail
                go_roundw
                case rel => exact ⟨i + 1, fpj, by omega, by omega, by go_num, by rw [HEV.out]; exact HJ.out.1, HJ.out.2⟩
                case measure => simp [intOf]; omega
              · have hz0b : (kd == 0) = false := by simpa using hz0
                by_cases hz1 : kd = 1
                · subst hz1
                  have hs : evG (heLin n s) Ei ⟨1, pp, ⟨oc, ox, oy⟩⟩ = (stpI (heLin n s) Ei pp).1 := by unfold evG; rw [if_neg (show ¬ ((1 : Int) = 0) by decide), if_pos rfl]
                  rw [hs] at HEV
                  have HS0 := Lib.hid (I.step HE.out.rep (by omega) pp)
                  clear hs
                  generalize stpI (heLin n s) Ei pp = t at *
                  go_wp2_with (go_at_call 34; refine HS0.out.mono ?_; rintro e wj ⟨rfl, fpj, hRj, hfpj, hKj⟩; have HJ := Lib.hid (HKP.out _ _ _ _ hRj hfpj hKj); clear hRj hfpj hKj)
                  go_roundw
                  case rel => exact ⟨i + 1, fpj, by omega, by omega, by go_num, by rw [HEV.out]; exact HJ.out.1, HJ.out.2⟩
                  case measure => simp [intOf]; omega
                · have hz1b : (kd == 1) = false := by simpa using hz1
                  have hs : evG (heLin n s) Ei ⟨kd, pp, ⟨oc, ox, oy⟩⟩ = Ei := by unfold evG; rw [if_neg hz0, if_neg hz1]
                  rw [hs] at HEV
                  clear hs
                  go_wp2_with fail
                  go_roundw
                  case rel => exact ⟨i + 1, fpi, by omega, by omega, by go_num, by rw [HEV.out]; exact ⟨I.mono HE.out.rep (by omega), HE.out.old, HE.out.keeps⟩, HRD.out, HNI.out⟩
                  case measure => simp [intOf]; omega
            · have hil : i = len := by omega
              subst hil
              have d0 : decide ((i : Int) < i) = false := decide_eq_false (by omega)
              have HL2 := Lib.hid (I.log hE.rep (by omega))
              have HE := Lib.hid hE
              have HRD := Lib.hid hrd
              have HNI := Lib.hid hni
              clear hE hrd hni
              obtain ⟨mm, hmm⟩ := (heLin n s).log_run (evAt f) hz.inv i hki
              have HMM := Lib.hid hmm
              clear hmm
              go_wp2_with (go_at_call 30; refine HL2.out.mono ?_; rintro e w7 ⟨v7, rfl, hO7, hf7, fp7, hR7, hfp7, hn7, hK7⟩; rw [HMM.out] at hO7; have hE7 := HE.out.post hR7 hfp7 hK7; have hrd7 := HRD.out.keeps hK7 (fun j hj => (HNI.out j hj).2); obtain ⟨a7, c7, rfl, hc7, hc7m⟩ := own_shape2 hO7; have HO7 := Lib.hid (RecRd.of hO7); rw [List.length_append, HL6.out] at hc7; have hl7 : (((heLin n s).log (runG (heLin n s) (evAt f) (heZero n s) k)) ++ mm).length = l6 + mm.length := (by rw [List.length_append, HL6.out]); rw [hl7] at HO7 ⊢; have HL7 := Lib.hid hl7; have HE7 := Lib.hid hE7; have HRD7 := Lib.hid hrd7; have g1 : (0 : Int) ≤ (l6 : Int) := (by omega); have g2 : (l6 : Int) ≤ (c7 : Int) := (by omega); have g3 : decide ((((l6 + mm.length : Nat) : Int)) < (l6 : Int)) = false := decide_eq_false (by omega); clear hE7 hrd7 hO7 hf7 hR7 hfp7 hn7 hK7 hl7 hc7 hc7m)
              have hp := HO7.out
              rw [← HL7.out] at hp
              have hp := hp.ahead
              rw [HL6.out] at hp
              refine (same07 HRD7.out hp (by rw [HL6.out]; exact hl6m)).mono ?_
              rintro e w8 ⟨rfl, hb8⟩
              have HB8 := Lib.hid hb8
              clear hb8 hp
              go_wp2_with fail
              go_ret
              have hb7 := HB4.out.trans (HE7.out.keeps.below (fun j hj => Nat.le_trans h34 (hfb j hj)) HB4.out.size)
              exact ⟨rfl, hb7.trans (HB8.out.mono hb7.size)⟩
    · skip
      have FW := fun W hx => Lib.hid (he_few (w := W) (vl := .slice al s.L.length cl) s hx a len cap)
      rw [decide_eq_false hok] at FW
      have NW := fun W hx => Lib.hid (he_start (w := W) (vl := .slice al s.L.length cl) s hx (by omega) n hst.1 (by omega) (by omega))
      go_enter Try.func11, Try.ntmps11
      go_wp2_with (first
        | (go_at_call 26; refine (he_up _).mono ?_; rintro e w2 ⟨rfl, hb2⟩; have hS2 := hS1.below hb2 hS1.lt; have HB2 := Lib.hid (HB1.out.trans (hb2.mono (by simp))); have c0 : w2.cell? ⟨w.heap.size, 0, none⟩ = some (.int .i64 s.kind) := hS2.cell 0; have c1 : w2.cell? ⟨w.heap.size, 1, none⟩ = some (.slice al s.L.length cl) := hS2.cell 1; have c2 : w2.cell? ⟨w.heap.size, 2, none⟩ = some (.bool s.isSealed) := hS2.cell 2; have c3 : w2.cell? ⟨w.heap.size, 3, none⟩ = some (.int .i64 s.to) := hS2.cell 3; clear hb2)
        | (go_at_call 27; refine (FW _ (HX.out.below HB2.out (Nat.le_refl _))).out.mono ?_; rintro e w3 ⟨rfl, hb3⟩; have hS3 := hS2.below hb3 hS2.lt; have HB3 := Lib.hid (HB2.out.trans (hb3.mono HB2.out.size)); clear c0 c1 c2 c3; have c0 : w3.cell? ⟨w.heap.size, 0, none⟩ = some (.int .i64 s.kind) := hS3.cell 0; have c1 : w3.cell? ⟨w.heap.size, 1, none⟩ = some (.slice al s.L.length cl) := hS3.cell 1; have c2 : w3.cell? ⟨w.heap.size, 2, none⟩ = some (.bool s.isSealed) := hS3.cell 2; have c3 : w3.cell? ⟨w.heap.size, 3, none⟩ = some (.int .i64 s.to) := hS3.cell 3; clear hb3)
        | (go_at_call 28; refine (NW _ (HX.out.below HB3.out (Nat.le_refl _))).out.mono ?_; rintro e w4 ⟨b, fp, rfl, hR4, hb4⟩; have HB4 := Lib.hid (HB3.out.trans (hb4.mono HB3.out.size)); have hb4s := hb4.size; clear hb4))
      go_ret
      exact ⟨rfl, HB4.out⟩
  · by_cases hok : s.L.length ≤ 300 ∧ len ≤ 1500
    · skip
      have FW := fun W hx => Lib.hid (he_few (w := W) (vl := .slice al s.L.length cl) s hx a len cap)
      rw [decide_eq_true hok] at FW
      have NW := fun W hx => Lib.hid (he_start_no (w := W) (vl := .slice al s.L.length cl) s hx n hst)
      go_enter Try.func11, Try.ntmps11
      go_wp2_with (first
        | (go_at_call 26; refine (he_up _).mono ?_; rintro e w2 ⟨rfl, hb2⟩; have hS2 := hS1.below hb2 hS1.lt; have HB2 := Lib.hid (HB1.out.trans (hb2.mono (by simp))); have c0 : w2.cell? ⟨w.heap.size, 0, none⟩ = some (.int .i64 s.kind) := hS2.cell 0; have c1 : w2.cell? ⟨w.heap.size, 1, none⟩ = some (.slice al s.L.length cl) := hS2.cell 1; have c2 : w2.cell? ⟨w.heap.size, 2, none⟩ = some (.bool s.isSealed) := hS2.cell 2; have c3 : w2.cell? ⟨w.heap.size, 3, none⟩ = some (.int .i64 s.to) := hS2.cell 3; clear hb2)
        | (go_at_call 27; refine (FW _ (HX.out.below HB2.out (Nat.le_refl _))).out.mono ?_; rintro e w3 ⟨rfl, hb3⟩; have hS3 := hS2.below hb3 hS2.lt; have HB3 := Lib.hid (HB2.out.trans (hb3.mono HB2.out.size)); clear c0 c1 c2 c3; have c0 : w3.cell? ⟨w.heap.size, 0, none⟩ = some (.int .i64 s.kind) := hS3.cell 0; have c1 : w3.cell? ⟨w.heap.size, 1, none⟩ = some (.slice al s.L.length cl) := hS3.cell 1; have c2 : w3.cell? ⟨w.heap.size, 2, none⟩ = some (.bool s.isSealed) := hS3.cell 2; have c3 : w3.cell? ⟨w.heap.size, 3, none⟩ = some (.int .i64 s.to) := hS3.cell 3; clear hb3)
        | (go_at_call 28; refine (NW _ (HX.out.below HB3.out (Nat.le_refl _))).out.mono ?_; rintro e w4 ⟨rfl, hb4⟩; have HB4 := Lib.hid (HB3.out.trans (hb4.mono HB3.out.size)); have hb4s := hb4.size; clear hb4))
      go_ret
      exact ⟨rfl, HB4.out⟩
    · skip
      have FW := fun W hx => Lib.hid (he_few (w := W) (vl := .slice al s.L.length cl) s hx a len cap)
      rw [decide_eq_false hok] at FW
      have NW := fun W hx => Lib.hid (he_start_no (w := W) (vl := .slice al s.L.length cl) s hx n hst)
      go_enter Try.func11, Try.ntmps11
      go_wp2_with (first
        | (go_at_call 26; refine (he_up _).mono ?_; rintro e w2 ⟨rfl, hb2⟩; have hS2 := hS1.below hb2 hS1.lt; have HB2 := Lib.hid (HB1.out.trans (hb2.mono (by simp))); have c0 : w2.cell? ⟨w.heap.size, 0, none⟩ = some (.int .i64 s.kind) := hS2.cell 0; have c1 : w2.cell? ⟨w.heap.size, 1, none⟩ = some (.slice al s.L.length cl) := hS2.cell 1; have c2 : w2.cell? ⟨w.heap.size, 2, none⟩ = some (.bool s.isSealed) := hS2.cell 2; have c3 : w2.cell? ⟨w.heap.size, 3, none⟩ = some (.int .i64 s.to) := hS2.cell 3; clear hb2)
        | (go_at_call 27; refine (FW _ (HX.out.below HB2.out (Nat.le_refl _))).out.mono ?_; rintro e w3 ⟨rfl, hb3⟩; have hS3 := hS2.below hb3 hS2.lt; have HB3 := Lib.hid (HB2.out.trans (hb3.mono HB2.out.size)); clear c0 c1 c2 c3; have c0 : w3.cell? ⟨w.heap.size, 0, none⟩ = some (.int .i64 s.kind) := hS3.cell 0; have c1 : w3.cell? ⟨w.heap.size, 1, none⟩ = some (.slice al s.L.length cl) := hS3.cell 1; have c2 : w3.cell? ⟨w.heap.size, 2, none⟩ = some (.bool s.isSealed) := hS3.cell 2; have c3 : w3.cell? ⟨w.heap.size, 3, none⟩ = some (.int .i64 s.to) := hS3.cell 3; clear hb3)
        | (go_at_call 28; refine (NW _ (HX.out.below HB3.out (Nat.le_refl _))).out.mono ?_; rintro e w4 ⟨rfl, hb4⟩; have HB4 := Lib.hid (HB3.out.trans (hb4.mono HB3.out.size)); have hb4s := hb4.size; clear hb4))
      go_ret
      exact ⟨rfl, HB4.out⟩
end Go.Proofs.Ytjfenjnnpikkdaa
/- Layer 15, HerlihyGrows: whatever the state, the processes and the script, the law returns true, and the arguments read as they did. No condition. -/
namespace Go.Proofs.Ytjfenjnnpikkdaa.herlihyGrows
open Go.ChangeShapes Go.WideShapes Go.ChangeAt Go.RowKit
open Go.ChangeMaps (open_string shut_string)
set_option maxRecDepth 100000

theorem own : ownKnob Try.prog.godebug = none := by kernel_rfl
theorem laidOut : laidOutB Try.prog = true := by kernel_rfl

set_option maxRecDepth 100000 in
theorem lifted (os : Os) (started : os.Started) (H : Type) (enc : TypeId × Value → H) :
    ReturnsInHanded {} Try.checked os 11 .any (Rows.herlihyGrowsSpec.pre6 enc Try.prog Try.f11 Rows.herlihyGrowsRow.domain false) (Rows.herlihyGrowsSpec.post enc Try.prog Try.f11 false true false false) := by
  refine returnsInHanded_of_change (C := Try.checked) own started (by kernel_rfl) Try.func11
    (ChangeSpec.witness6 (enc := enc) (C := Try.checked) false ⟨#[], #[.agg #[.int .i64 0, .slice none 0 0, .bool false, .int .i64 0], .int .i64 0, .slice none 0 0, .int .i64 0], []⟩ 8 (by kernel_rfl) (by kernel_rfl) (by kernel_rfl) (by kernel_rfl)) ?_
  intro W base args ds gs before hval0 hW hcnd _
  have hval : ∀ (j : Nat) t v, Try.f11.params[j]? = some t → args[j]? = some v → Value.okWide Try.prog W .any base t v := hval0
  have hW' := hW
  obtain ⟨p, q, hA0, hV, rfl, hfz, hnd⟩ := hW
  have hA : DataW.TrodAll enc Try.prog W 0 (fun _ => true) true Try.f11.params.toList args.toList ds p := hA0
  rw [Try.params11] at hA hval
  obtain ⟨v0, vs0, d0, ds0, p0, q0, hargs, rfl, rfl, h0, r0⟩ := trodAll_cons hA
  obtain ⟨v1, vs1, d1, ds1, p1, q1, rfl, rfl, rfl, h1, r1⟩ := trodAll_cons r0
  obtain ⟨v2, vs2, d2, ds2, p2, q2, rfl, rfl, rfl, h2, r2⟩ := trodAll_cons r1
  obtain ⟨v3, vs3, d3, ds3, p3, q3, rfl, rfl, rfl, h3, r3⟩ := trodAll_cons r2
  obtain ⟨rfl, rfl, rfl⟩ := trodAll_nil r3
  obtain rfl : args = #[v0, v1, v2, v3] := by cases args; simp_all
  obtain ⟨rfl, rfl⟩ := trodVars_none hV
  have k0 := h0
  have lt0 : ∀ x ∈ p0, x.block < W.heap.size := by obtain ⟨m, hm⟩ := k0; exact DataW.trod_lt m _ _ _ hm
  have k1 := h1
  have lt1 : ∀ x ∈ p1, x.block < W.heap.size := by obtain ⟨m, hm⟩ := k1; exact DataW.trod_lt m _ _ _ hm
  have k2 := h2
  have lt2 : ∀ x ∈ p2, x.block < W.heap.size := by obtain ⟨m, hm⟩ := k2; exact DataW.trod_lt m _ _ _ hm
  have k3 := h3
  have lt3 : ∀ x ∈ p3, x.block < W.heap.size := by obtain ⟨m, hm⟩ := k3; exact DataW.trod_lt m _ _ _ hm
  obtain ⟨s0, l0, rfl, w0⟩ := open_state (hval 0 24 v0 rfl rfl) h0
  obtain ⟨a1, rfl, rfl, rfl, w1⟩ := open_int Try.underlying3 (hval 1 3 v1 rfl rfl) h1
  obtain ⟨a2, len2, cap2, rfl⟩ := okWide_slice Try.underlying57 (hval 2 57 v2 rfl rfl)
  obtain ⟨hlc2, hcm2, f2, w2⟩ : len2 ≤ cap2 ∧ cap2 ≤ 9223372036854775807 ∧ ∃ f, IsOps W a2 len2 f 5 := by
    obtain ⟨fuel, hf⟩ := h2
    exact open_flat_structs Try.underlying57 Try.cells_evHe (by decide) (flat_evHe (enc := enc)) a2 len2 cap2 (by simpa [Value.cells] using hf)
  obtain ⟨a3, rfl, rfl, rfl, w3⟩ := open_int Try.underlying3 (hval 3 3 v3 rfl rfl) h3
  clear hA0 hval0
  refine (he_grows (w := W) s0 w0 a1 a2 len2 cap2 f2 w2 hlc2 hcm2 a3).mono fun e W' ⟨he, bel⟩ => ?_
  subst he
  exact ⟨_, rfl, _, _, _, [], _, [], hW', trodAll_mk1 (shut_bool Try.underlying4 _), (trodAll_cons_mk (Below.trod laidOut (by kernel_rfl) (of_decide_eq_true (by kernel_rfl)) k0 bel lt0) (trodAll_cons_mk (Below.trod laidOut (by kernel_rfl) (of_decide_eq_true (by kernel_rfl)) k1 bel lt1) (trodAll_cons_mk (Below.trod laidOut (by kernel_rfl) (of_decide_eq_true (by kernel_rfl)) k2 bel lt2) (trodAll_cons_mk (Below.trod laidOut (by kernel_rfl) (of_decide_eq_true (by kernel_rfl)) k3 bel lt3) trodAll_mk0)))), rfl, bel.frame _, fun h => by cases h⟩

theorem over : Rows.herlihyGrowsRow.holds Try.pinned (OpenSpec.ofChange Rows.herlihyGrowsSpec) :=
  OpenClaim.holds_of_wide 11 Try.f11 rfl rfl rfl rfl rfl rfl rfl ⟨rfl, rfl, rfl, rfl, rfl⟩ rfl rfl rfl rfl rfl (by kernel_rfl) Try.func11 (by kernel_rfl)
    (of_decide_eq_true (by kernel_rfl)) (by unfold Func.isWrapper; first | (rw [if_pos (by decide +kernel)]; kernel_rfl) | (rw [if_neg (by decide +kernel)]; exact ⟨rfl, rfl⟩))
    (fun os started H enc _ => lifted os started H enc)

theorem proved : Rows.HerlihyGrowsSaid := over
#print axioms proved
end Go.Proofs.Ytjfenjnnpikkdaa.herlihyGrows
