/-
  FilesDark.
-/
import Derived.Test.YtpckjinlopmbcaaFsG
import Derived.Test.YtpckjinlopmbcaaWLast
import Derived.StillTailTactics
namespace Go.Proofs.Ytpckjinlopmbcaa
set_option linter.unusedVariables false
set_option maxRecDepth 100000
set_option linter.unusedSimpArgs false
open Go.RowKit
open Go.Proofs.YtpckjinlopmbcaaW.PrintLast
set_option maxHeartbeats 6400000 in
theorem f_dark {w : World} {room name : Int} (hroom : (Lit.int .i64 room).wf = true) (hname : (Lit.int .i64 name).wf = true) {a : Option Addr} {len cap : Nat} {f : Nat → OpF} {vb vk : Nat → Value} (h : IsOpsF w a len f vb vk) (hl : len ≤ 9223372036854775807) :
    Calls Try.prog 8 #[.int .i64 room, .slice a len cap, .int .i64 name] w fun e w' => e = .returned (.bool true) ∧ Below w.heap.size w w' := by
  have HO := Lib.hid h
  have kc := fun (w : World) (C : Array Value) (n c : Nat) => Lib.run_convert_bytes_const (P := Try.prog) w 22 5 C n c Try.underlying22 Try.underlying5
  clear h
  go_enter Try.func8, Try.ntmps8
  go_wp2_with fail
  refine (f_awake w).mono ?_
  rintro e w1 ⟨rfl, hB1⟩
  go_wp2_with fail
  refine (f_few (HO.out.below hB1 (Nat.le_refl _)) hl).mono ?_
  rintro e w2 ⟨r, rfl, hr1, hB2⟩
  have hB2' := hB1.trans (hB2.mono hB1.size)
  clear hB1 hB2
  go_wp2_with fail
  refine (d_new w2 room hroom).mono ?_
  rintro e w3 ⟨b, rfl, hD3, hB3⟩
  have hL3 : LoopF w w3 w2.heap.size b 0 (zeroF room) := ⟨hD3, hB2'.trans (hB3.mono hB2'.size), hB2'.size⟩
  clear hB3 hB2' hD3
  generalize w2.heap.size = B at *
  clear w1 w2
  cases r with
  | false =>
    go_wp2_with fail
    go_ret
    exact ⟨rfl, hL3.bel⟩
  | true =>
    have hF := hr1 rfl
    have HF := Lib.hid hF
    have h150 := hF.1
    clear hr1 hF
    have ha : Below w3.heap.size w3 (w3.alloc (.cells #[.int .u8 97] 5 (1, 2))) := (Below.refl _ _).alloc (Nat.le_refl _) _
    go_wp2_with fail
    refine (d_append hL3.d ha (by omega) (n := name) (bs := [97]) hname (a_rb w3) (by simp) (fun _ k hk => .inr (by simp [Value.ownBlock] at hk; omega))).mono ?_
    rintro e w4 ⟨rfl, hD4, hB4⟩
    have hL4 := hL3.post ha hD4 hB4
    clear hL3 hD4 hB4 ha
    generalize ((zeroF room).append name [97]).1 = S1 at *
    generalize ((zeroF room).append name [97]).2 = e1 at *
    go_wp2_with fail
    refine (d_used hL4.d).mono ?_
    rintro e w5 ⟨rfl, hB5⟩
    have hL5 := hL4.below hB5
    clear hL4 hB5
    go_wp2_with fail
    refine (d_cut hL5.d (by omega) (n := 0) (by omega)).mono ?_
    rintro e w6 ⟨rfl, hD6, hB6⟩
    have hL6 := hL5.post (Below.refl _ _) hD6 hB6
    clear hL5 hD6 hB6
    have hu := cut_used S1 0
    have ho := cut_out S1
    generalize S1.cut 0 = S at *
    rw [← hu]
    have HOUT := Lib.hid ho
    clear hu ho
    go_wp2_with fail
    go_loopw [11] (fun iv wr => ∃ (i m : Nat), i ≤ len ∧ iv = .int .i64 i ∧ m ≤ i + 2 ∧ LoopF w wr B b m S) (fun iv _ => len - (intOf iv).toNat)
    case atStart => exact ⟨0, _, by omega, rfl, by omega, hL6⟩
    case round =>
      obtain ⟨i, m, hi, rfl, hm, hL⟩ := hrel
      by_cases hlt : i < len
      · obtain ⟨bb, oo, rfl, hlb, hc⟩ := HO.out (by omega)
        have hA := hc i hlt
        have hAt := hA.below hL.bel (Nat.le_refl _)
        have hfew := HF.out.2 i hlt
        have hblk := fun h0 => rb_block hA.rb h0
        clear hA hc
        generalize f i = op at *
        obtain ⟨kd, nm, nn, bs, ks⟩ := op
        obtain ⟨c0, c1, c2, c3, c4, rb, rk, n1, n2⟩ := hAt
        simp only at c0 c1 c2 c3 c4 rb rk n1 n2 hfew hblk
        obtain ⟨av, cv, ev, -⟩ := id rb
        obtain ⟨ak, ck, ek, -⟩ := id rk
        rw [ev] at c3
        rw [ek] at c4
        have d2 : decide ((i : Int) < (len : Int)) = true := decide_eq_true (by omega)
        have i1 : (0 : Int) ≤ (i : Int) := by omega
        have i2 : (i : Int) < (len : Int) := by omega
        have wi : IntKind.i64.wrap ((i : Int) + 1) = (i : Int) + 1 := IntWalk.i64_in _ (by omega)
        have hle := hL.le
        have hbB : bb < B := Nat.lt_of_lt_of_le hlb hle
        have HL := Lib.hid hL
        have HRB := Lib.hid rb
        have HBLK := Lib.hid hblk
        rw [ev] at HRB HBLK
        clear hL rb rk ev ek hblk
        rcases (by omega : kd = 0 ∨ kd = 1 ∨ kd = 2 ∨ kd = 3 ∨ kd = 4 ∨ kd = 5 ∨ (kd ≠ 0 ∧ kd ≠ 1 ∧ kd ≠ 2 ∧ kd ≠ 3 ∧ kd ≠ 4 ∧ kd ≠ 5)) with hk | hk | hk | hk | hk | hk | ⟨hk0, hk1, hk2, hk3, hk4, hk5⟩
        · skip
          have e0 : (kd == 0) = true := by simp [hk]
          have e1 : (kd == 1) = false := by rw [hk]; decide
          have e2 : (kd == 2) = false := by rw [hk]; decide
          have e3 : (kd == 3) = false := by rw [hk]; decide
          have e4 : (kd == 4) = false := by rw [hk]; decide
          have e5 : (kd == 5) = false := by rw [hk]; decide
          have HON : Hid (∀ W {m' : Nat}, Disk B W b m' S → Calls Try.prog 27 #[.pointer (some ⟨b, 0, none⟩)] W fun e w' => e = .returned (.bool false) ∧ w' = W) := Lib.hid fun W _ hd => by have := d_on hd; rw [HOUT.out] at this; exact this
          have hap := d_append HL.out.drew.d (Below.refl _ _) (by omega) (n := nm) (bs := bs) n1 HRB.out (by omega) (fun h0 k hk => .inl (Nat.lt_of_lt_of_le (HBLK.out h0 k hk) hle))
          rw [out_append HOUT.out] at hap
          have HA := Lib.hid hap
          clear hap
          go_wp2_with fail
          refine start_ (n := 13) (S := fun w' => w'.cell? ⟨bb, oo + i * 5 + 1, none⟩ = some (.int .i64 nm) ∧ w'.cell? ⟨bb, oo + i * 5 + 3, none⟩ = some (.slice av bs.length cv)) (ds := []) #[false, false, false, false, false, false, false, false, false, false, false, false, false] (by kernel_rfl) rfl rfl ⟨c1, c3⟩ (fun hHeld => ?_)
          refine pure_ (i := 0) (N := some 55) (v := ?_) (a' := ?_) #[true, false, false, false, false, false, false, false, false, false, false, false, false] rfl rfl (by kernel_rfl) (fun _ _ _ h => h) (Or.inl ⟨by rfl, ?_⟩) ?_ ?_
          rotate_left
          · intro w'
            go_simp
            with_reducible rfl
          rotate_left
          · simp only [Act.put, List.setIfInBounds_toArray, List.set_cons_zero, List.set_cons_succ, i64_w, i32_w]
            rfl
          refine pure_ (i := 1) (N := some 56) (v := ?_) (a' := ?_) #[true, true, false, false, false, false, false, false, false, false, false, false, false] rfl rfl (by kernel_rfl) (fun _ _ _ h => h) (Or.inl ⟨by rfl, ?_⟩) ?_ ?_
          rotate_left
          · intro w'
            go_simp
            with_reducible rfl
          rotate_left
          · simp only [Act.put, List.setIfInBounds_toArray, List.set_cons_zero, List.set_cons_succ, i64_w, i32_w]
            rfl
          refine pure_ (i := 2) (N := some 57) (v := ?_) (a' := ?_) #[true, true, true, false, false, false, false, false, false, false, false, false, false] rfl rfl (by kernel_rfl) (fun _ _ _ h => h) (Or.inl ⟨by rfl, ?_⟩) ?_ ?_
          rotate_left
          · intro w'
            go_simp
            with_reducible rfl
          rotate_left
          · simp only [Act.put, List.setIfInBounds_toArray, List.set_cons_zero, List.set_cons_succ, i64_w, i32_w]
            rfl
          refine pure_ (i := 3) (N := some 58) (v := ?_) (a' := ?_) #[true, true, true, true, false, false, false, false, false, false, false, false, false] rfl rfl (by kernel_rfl) (fun _ _ _ h => h) (Or.inl ⟨by rfl, ?_⟩) ?_ ?_
          rotate_left
          · intro w'
            go_simp
            with_reducible rfl
          rotate_left
          · simp only [Act.put, List.setIfInBounds_toArray, List.set_cons_zero, List.set_cons_succ, i64_w, i32_w]
            rfl
          refine pure_ (i := 4) (N := some 59) (v := ?_) (a' := ?_) #[true, true, true, true, true, false, false, false, false, false, false, false, false] rfl rfl (by kernel_rfl) (fun _ _ _ h => h) (Or.inl ⟨by rfl, ?_⟩) ?_ ?_
          rotate_left
          · intro w'
            go_simp
            with_reducible rfl
          rotate_left
          · simp only [Act.put, List.setIfInBounds_toArray, List.set_cons_zero, List.set_cons_succ, i64_w, i32_w]
            rfl
          refine pure_ (i := 6) (N := some 61) (v := ?_) (a' := ?_) #[true, true, true, true, true, false, true, false, false, false, false, false, false] rfl rfl (by kernel_rfl) (fun _ _ _ h => h) (Or.inl ⟨by rfl, ?_⟩) ?_ ?_
          rotate_left
          · intro w'
            go_simp
            with_reducible rfl
          rotate_left
          · simp only [Act.put, List.setIfInBounds_toArray, List.set_cons_zero, List.set_cons_succ, i64_w, i32_w]
            rfl
          refine pure_ (i := 7) (N := some 62) (v := ?_) (a' := ?_) #[true, true, true, true, true, false, true, true, false, false, false, false, false] rfl rfl (by kernel_rfl) (fun _ _ _ h => h) (Or.inl ⟨by rfl, ?_⟩) ?_ ?_
          rotate_left
          · intro w'
            go_simp
            with_reducible rfl
          rotate_left
          · simp only [Act.put, List.setIfInBounds_toArray, List.set_cons_zero, List.set_cons_succ, i64_w, i32_w]
            rfl
          refine pure_ (i := 8) (N := some 63) (v := ?_) (a' := ?_) #[true, true, true, true, true, false, true, true, true, false, false, false, false] rfl rfl (by kernel_rfl) (fun _ _ _ h => h) (Or.inl ⟨by rfl, ?_⟩) ?_ ?_
          rotate_left
          · intro w'
            go_simp
            with_reducible rfl
          rotate_left
          · simp only [Act.put, List.setIfInBounds_toArray, List.set_cons_zero, List.set_cons_succ, i64_w, i32_w]
            rfl
          refine pure_ (i := 9) (N := some 64) (v := ?_) (a' := ?_) #[true, true, true, true, true, false, true, true, true, true, false, false, false] rfl rfl (by kernel_rfl) (fun _ _ _ h => h) (Or.inl ⟨by rfl, ?_⟩) ?_ ?_
          rotate_left
          · intro w'
            go_simp
            with_reducible rfl
          rotate_left
          · simp only [Act.put, List.setIfInBounds_toArray, List.set_cons_zero, List.set_cons_succ, i64_w, i32_w]
            rfl
          refine take_ (i := 5) (N := some 60) (v := ?_) (a' := ?_) #[true, true, true, true, true, true, true, true, true, true, false, false, false] rfl rfl (by kernel_rfl) (fun _ _ _ h => h) (Or.inl ⟨by rfl, ?_⟩) hHeld ?_ ?_
          rotate_left
          · rintro w' ⟨s0, s1⟩
            go_simp
            with_reducible rfl
          rotate_left
          · simp only [Act.put, List.setIfInBounds_toArray, List.set_cons_zero, List.set_cons_succ, i64_w, i32_w]
            rfl
          refine take_ (i := 10) (N := some 65) (v := ?_) (a' := ?_) #[true, true, true, true, true, true, true, true, true, true, true, false, false] rfl rfl (by kernel_rfl) (fun _ _ _ h => h) (Or.inl ⟨by rfl, ?_⟩) hHeld ?_ ?_
          rotate_left
          · rintro w' ⟨s0, s1⟩
            go_simp
            with_reducible rfl
          rotate_left
          · simp only [Act.put, List.setIfInBounds_toArray, List.set_cons_zero, List.set_cons_succ, i64_w, i32_w]
            rfl
          refine one_ (i := 11) (N := some 66) #[true, true, true, true, true, true, true, true, true, true, true, true, false] rfl rfl (by kernel_rfl) (by decide) (fun K hK => ?_)
          refine goes_ Try.func11 (by kernel_rfl) rfl #[.pointer (some ⟨b, 0, none⟩), .int .i64 nm, .slice av bs.length cv] (by rfl) rfl rfl (by simp only [List.map_toArray, List.map_cons, List.map_nil]; rfl) ?_
          with_reducible refine (HA.out).mono ?_
          rintro e w5 ⟨rfl, hD5, hB5⟩
          refine ⟨_, rfl, ?_⟩
          try clear hHeld
          refine hK.out _ _ ⟨((hB5.cell (p := ⟨bb, _, none⟩) hbB).trans c1), ((hB5.cell (p := ⟨bb, _, none⟩) hbB).trans c3)⟩ (fun hHeld => ?_)
          clear hK K
          refine norm_ (a' := ?_) ?_ ?_
          rotate_left
          · show Act.put _ (some 66) _ = _
            simp only [Act.put, List.setIfInBounds_toArray, List.set_cons_zero, List.set_cons_succ, i64_w, i32_w]
            rfl
          refine pure_ (i := 12) (N := some 12) (v := ?_) (a' := ?_) #[true, true, true, true, true, true, true, true, true, true, true, true, true] rfl rfl (by kernel_rfl) (fun _ _ _ h => h) (Or.inl ⟨by rfl, ?_⟩) ?_ ?_
          rotate_left
          · intro w'
            go_simp
            with_reducible rfl
          rotate_left
          · simp only [Act.put, List.setIfInBounds_toArray, List.set_cons_zero, List.set_cons_succ, i64_w, i32_w]
            rfl
          try clear hHeld
          refine done_ (by kernel_rfl) ?_
          have HL5 := Lib.hid (HL.out.drew.post (Below.refl _ _) hD5 hB5)
          clear hD5 hB5 HA
          go_wp2_with (first | (go_at_call 27; refine (HON.out _ HL5.out.d).mono ?_; rintro e w8 ⟨rfl, rfl⟩) | (go_at_call 18; refine (d_used HL5.out.d).mono ?_; rintro e w9 ⟨rfl, hb9⟩; have HL9 := Lib.hid (HL5.out.below hb9)) | go_in)
          go_roundw
          case rel => exact ⟨i + 1, _, by omega, by go_num, by omega, HL9.out⟩
          case measure => simp [intOf]; omega
        · skip
          have e0 : (kd == 0) = false := by rw [hk]; decide
          have e1 : (kd == 1) = true := by simp [hk]
          have e2 : (kd == 2) = false := by rw [hk]; decide
          have e3 : (kd == 3) = false := by rw [hk]; decide
          have e4 : (kd == 4) = false := by rw [hk]; decide
          have e5 : (kd == 5) = false := by rw [hk]; decide
          have HON : Hid (∀ W {m' : Nat}, Disk B W b m' S → Calls Try.prog 27 #[.pointer (some ⟨b, 0, none⟩)] W fun e w' => e = .returned (.bool false) ∧ w' = W) := Lib.hid fun W _ hd => by have := d_on hd; rw [HOUT.out] at this; exact this
          have hap := d_read HL.out.d (n := nm) n1
          unfold ReadP at hap
          rw [out_read HOUT.out] at hap
          have HA := Lib.hid hap
          clear hap
          go_wp2_with (first | (go_at_call 16; refine HA.out.mono ?_; rintro e w5 ⟨v5, rfl, ho5, hf5, hb5⟩; have HL5 := Lib.hid (HL.out.below hb5); clear ho5 hf5 hb5) | (go_at_call 27; refine (HON.out _ HL5.out.d).mono ?_; rintro e w8 ⟨rfl, rfl⟩) | (go_at_call 18; refine (d_used HL5.out.d).mono ?_; rintro e w9 ⟨rfl, hb9⟩; have HL9 := Lib.hid (HL5.out.below hb9)) | go_in)
          go_roundw
          case rel => exact ⟨i + 1, _, by omega, by go_num, by omega, HL9.out⟩
          case measure => simp [intOf]; omega
        · skip
          have e0 : (kd == 0) = false := by rw [hk]; decide
          have e1 : (kd == 1) = false := by rw [hk]; decide
          have e2 : (kd == 2) = true := by simp [hk]
          have e3 : (kd == 3) = false := by rw [hk]; decide
          have e4 : (kd == 4) = false := by rw [hk]; decide
          have e5 : (kd == 5) = false := by rw [hk]; decide
          have HON : Hid (∀ W {m' : Nat}, Disk B W b m' S → Calls Try.prog 27 #[.pointer (some ⟨b, 0, none⟩)] W fun e w' => e = .returned (.bool false) ∧ w' = W) := Lib.hid fun W _ hd => by have := d_on hd; rw [HOUT.out] at this; exact this
          have hap := d_sync HL.out.d (by omega) (n := nm) n1
          rw [out_sync HOUT.out] at hap
          have HA := Lib.hid hap
          clear hap
          go_wp2_with (first | (go_at_call 12; refine HA.out.mono ?_; rintro e w5 ⟨rfl, hD5, hB5⟩; have HL5 := Lib.hid (HL.out.post (Below.refl _ _) hD5 hB5); clear hD5 hB5) | (go_at_call 27; refine (HON.out _ HL5.out.d).mono ?_; rintro e w8 ⟨rfl, rfl⟩) | (go_at_call 18; refine (d_used HL5.out.d).mono ?_; rintro e w9 ⟨rfl, hb9⟩; have HL9 := Lib.hid (HL5.out.below hb9)) | go_in)
          go_roundw
          case rel => exact ⟨i + 1, _, by omega, by go_num, by omega, HL9.out⟩
          case measure => simp [intOf]; omega
        · skip
          have e0 : (kd == 0) = false := by rw [hk]; decide
          have e1 : (kd == 1) = false := by rw [hk]; decide
          have e2 : (kd == 2) = false := by rw [hk]; decide
          have e3 : (kd == 3) = true := by simp [hk]
          have e4 : (kd == 4) = false := by rw [hk]; decide
          have e5 : (kd == 5) = false := by rw [hk]; decide
          have HON : Hid (∀ W {m' : Nat}, Disk B W b m' S → Calls Try.prog 27 #[.pointer (some ⟨b, 0, none⟩)] W fun e w' => e = .returned (.bool false) ∧ w' = W) := Lib.hid fun W _ hd => by have := d_on hd; rw [HOUT.out] at this; exact this
          have hap := d_rename HL.out.drew.d (by omega) (n := nm) (to := nn) n1 n2
          rw [out_rename HOUT.out] at hap
          have HA := Lib.hid hap
          clear hap
          go_wp2_with fail
          refine start_ (n := 13) (S := fun w' => w'.cell? ⟨bb, oo + i * 5 + 1, none⟩ = some (.int .i64 nm) ∧ w'.cell? ⟨bb, oo + i * 5 + 2, none⟩ = some (.int .i64 nn)) (ds := []) #[false, false, false, false, false, false, false, false, false, false, false, false, false] (by kernel_rfl) rfl rfl ⟨c1, c2⟩ (fun hHeld => ?_)
          refine pure_ (i := 0) (N := some 90) (v := ?_) (a' := ?_) #[true, false, false, false, false, false, false, false, false, false, false, false, false] rfl rfl (by kernel_rfl) (fun _ _ _ h => h) (Or.inl ⟨by rfl, ?_⟩) ?_ ?_
          rotate_left
          · intro w'
            go_simp
            with_reducible rfl
          rotate_left
          · simp only [Act.put, List.setIfInBounds_toArray, List.set_cons_zero, List.set_cons_succ, i64_w, i32_w]
            rfl
          refine pure_ (i := 1) (N := some 91) (v := ?_) (a' := ?_) #[true, true, false, false, false, false, false, false, false, false, false, false, false] rfl rfl (by kernel_rfl) (fun _ _ _ h => h) (Or.inl ⟨by rfl, ?_⟩) ?_ ?_
          rotate_left
          · intro w'
            go_simp
            with_reducible rfl
          rotate_left
          · simp only [Act.put, List.setIfInBounds_toArray, List.set_cons_zero, List.set_cons_succ, i64_w, i32_w]
            rfl
          refine pure_ (i := 2) (N := some 92) (v := ?_) (a' := ?_) #[true, true, true, false, false, false, false, false, false, false, false, false, false] rfl rfl (by kernel_rfl) (fun _ _ _ h => h) (Or.inl ⟨by rfl, ?_⟩) ?_ ?_
          rotate_left
          · intro w'
            go_simp
            with_reducible rfl
          rotate_left
          · simp only [Act.put, List.setIfInBounds_toArray, List.set_cons_zero, List.set_cons_succ, i64_w, i32_w]
            rfl
          refine pure_ (i := 3) (N := some 93) (v := ?_) (a' := ?_) #[true, true, true, true, false, false, false, false, false, false, false, false, false] rfl rfl (by kernel_rfl) (fun _ _ _ h => h) (Or.inl ⟨by rfl, ?_⟩) ?_ ?_
          rotate_left
          · intro w'
            go_simp
            with_reducible rfl
          rotate_left
          · simp only [Act.put, List.setIfInBounds_toArray, List.set_cons_zero, List.set_cons_succ, i64_w, i32_w]
            rfl
          refine pure_ (i := 4) (N := some 94) (v := ?_) (a' := ?_) #[true, true, true, true, true, false, false, false, false, false, false, false, false] rfl rfl (by kernel_rfl) (fun _ _ _ h => h) (Or.inl ⟨by rfl, ?_⟩) ?_ ?_
          rotate_left
          · intro w'
            go_simp
            with_reducible rfl
          rotate_left
          · simp only [Act.put, List.setIfInBounds_toArray, List.set_cons_zero, List.set_cons_succ, i64_w, i32_w]
            rfl
          refine pure_ (i := 6) (N := some 96) (v := ?_) (a' := ?_) #[true, true, true, true, true, false, true, false, false, false, false, false, false] rfl rfl (by kernel_rfl) (fun _ _ _ h => h) (Or.inl ⟨by rfl, ?_⟩) ?_ ?_
          rotate_left
          · intro w'
            go_simp
            with_reducible rfl
          rotate_left
          · simp only [Act.put, List.setIfInBounds_toArray, List.set_cons_zero, List.set_cons_succ, i64_w, i32_w]
            rfl
          refine pure_ (i := 7) (N := some 97) (v := ?_) (a' := ?_) #[true, true, true, true, true, false, true, true, false, false, false, false, false] rfl rfl (by kernel_rfl) (fun _ _ _ h => h) (Or.inl ⟨by rfl, ?_⟩) ?_ ?_
          rotate_left
          · intro w'
            go_simp
            with_reducible rfl
          rotate_left
          · simp only [Act.put, List.setIfInBounds_toArray, List.set_cons_zero, List.set_cons_succ, i64_w, i32_w]
            rfl
          refine pure_ (i := 8) (N := some 98) (v := ?_) (a' := ?_) #[true, true, true, true, true, false, true, true, true, false, false, false, false] rfl rfl (by kernel_rfl) (fun _ _ _ h => h) (Or.inl ⟨by rfl, ?_⟩) ?_ ?_
          rotate_left
          · intro w'
            go_simp
            with_reducible rfl
          rotate_left
          · simp only [Act.put, List.setIfInBounds_toArray, List.set_cons_zero, List.set_cons_succ, i64_w, i32_w]
            rfl
          refine pure_ (i := 9) (N := some 99) (v := ?_) (a' := ?_) #[true, true, true, true, true, false, true, true, true, true, false, false, false] rfl rfl (by kernel_rfl) (fun _ _ _ h => h) (Or.inl ⟨by rfl, ?_⟩) ?_ ?_
          rotate_left
          · intro w'
            go_simp
            with_reducible rfl
          rotate_left
          · simp only [Act.put, List.setIfInBounds_toArray, List.set_cons_zero, List.set_cons_succ, i64_w, i32_w]
            rfl
          refine take_ (i := 5) (N := some 95) (v := ?_) (a' := ?_) #[true, true, true, true, true, true, true, true, true, true, false, false, false] rfl rfl (by kernel_rfl) (fun _ _ _ h => h) (Or.inl ⟨by rfl, ?_⟩) hHeld ?_ ?_
          rotate_left
          · rintro w' ⟨s0, s1⟩
            go_simp
            with_reducible rfl
          rotate_left
          · simp only [Act.put, List.setIfInBounds_toArray, List.set_cons_zero, List.set_cons_succ, i64_w, i32_w]
            rfl
          refine take_ (i := 10) (N := some 100) (v := ?_) (a' := ?_) #[true, true, true, true, true, true, true, true, true, true, true, false, false] rfl rfl (by kernel_rfl) (fun _ _ _ h => h) (Or.inl ⟨by rfl, ?_⟩) hHeld ?_ ?_
          rotate_left
          · rintro w' ⟨s0, s1⟩
            go_simp
            with_reducible rfl
          rotate_left
          · simp only [Act.put, List.setIfInBounds_toArray, List.set_cons_zero, List.set_cons_succ, i64_w, i32_w]
            rfl
          refine one_ (i := 11) (N := some 101) #[true, true, true, true, true, true, true, true, true, true, true, true, false] rfl rfl (by kernel_rfl) (by decide) (fun K hK => ?_)
          refine goes_ Try.func19 (by kernel_rfl) rfl #[.pointer (some ⟨b, 0, none⟩), .int .i64 nm, .int .i64 nn] (by rfl) rfl rfl (by simp only [List.map_toArray, List.map_cons, List.map_nil]; rfl) ?_
          with_reducible refine (HA.out).mono ?_
          rintro e w5 ⟨rfl, hD5, hB5⟩
          refine ⟨_, rfl, ?_⟩
          try clear hHeld
          refine hK.out _ _ ⟨((hB5.cell (p := ⟨bb, _, none⟩) hbB).trans c1), ((hB5.cell (p := ⟨bb, _, none⟩) hbB).trans c2)⟩ (fun hHeld => ?_)
          clear hK K
          refine norm_ (a' := ?_) ?_ ?_
          rotate_left
          · show Act.put _ (some 101) _ = _
            simp only [Act.put, List.setIfInBounds_toArray, List.set_cons_zero, List.set_cons_succ, i64_w, i32_w]
            rfl
          refine pure_ (i := 12) (N := some 12) (v := ?_) (a' := ?_) #[true, true, true, true, true, true, true, true, true, true, true, true, true] rfl rfl (by kernel_rfl) (fun _ _ _ h => h) (Or.inl ⟨by rfl, ?_⟩) ?_ ?_
          rotate_left
          · intro w'
            go_simp
            with_reducible rfl
          rotate_left
          · simp only [Act.put, List.setIfInBounds_toArray, List.set_cons_zero, List.set_cons_succ, i64_w, i32_w]
            rfl
          try clear hHeld
          refine done_ (by kernel_rfl) ?_
          have HL5 := Lib.hid (HL.out.drew.post (Below.refl _ _) hD5 hB5)
          clear hD5 hB5 HA
          go_wp2_with (first | (go_at_call 27; refine (HON.out _ HL5.out.d).mono ?_; rintro e w8 ⟨rfl, rfl⟩) | (go_at_call 18; refine (d_used HL5.out.d).mono ?_; rintro e w9 ⟨rfl, hb9⟩; have HL9 := Lib.hid (HL5.out.below hb9)) | go_in)
          go_roundw
          case rel => exact ⟨i + 1, _, by omega, by go_num, by omega, HL9.out⟩
          case measure => simp [intOf]; omega
        · skip
          have e0 : (kd == 0) = false := by rw [hk]; decide
          have e1 : (kd == 1) = false := by rw [hk]; decide
          have e2 : (kd == 2) = false := by rw [hk]; decide
          have e3 : (kd == 3) = false := by rw [hk]; decide
          have e4 : (kd == 4) = true := by simp [hk]
          have e5 : (kd == 5) = false := by rw [hk]; decide
          have HON : Hid (∀ W {m' : Nat}, Disk B W b m' S → Calls Try.prog 27 #[.pointer (some ⟨b, 0, none⟩)] W fun e w' => e = .returned (.bool false) ∧ w' = W) := Lib.hid fun W _ hd => by have := d_on hd; rw [HOUT.out] at this; exact this
          have hap := d_remove HL.out.d (by omega) (n := nm) n1
          rw [out_remove HOUT.out] at hap
          have HA := Lib.hid hap
          clear hap
          go_wp2_with (first | (go_at_call 20; refine HA.out.mono ?_; rintro e w5 ⟨rfl, hD5, hB5⟩; have HL5 := Lib.hid (HL.out.post (Below.refl _ _) hD5 hB5); clear hD5 hB5) | (go_at_call 27; refine (HON.out _ HL5.out.d).mono ?_; rintro e w8 ⟨rfl, rfl⟩) | (go_at_call 18; refine (d_used HL5.out.d).mono ?_; rintro e w9 ⟨rfl, hb9⟩; have HL9 := Lib.hid (HL5.out.below hb9)) | go_in)
          go_roundw
          case rel => exact ⟨i + 1, _, by omega, by go_num, by omega, HL9.out⟩
          case measure => simp [intOf]; omega
        · skip
          have e0 : (kd == 0) = false := by rw [hk]; decide
          have e1 : (kd == 1) = false := by rw [hk]; decide
          have e2 : (kd == 2) = false := by rw [hk]; decide
          have e3 : (kd == 3) = false := by rw [hk]; decide
          have e4 : (kd == 4) = false := by rw [hk]; decide
          have e5 : (kd == 5) = true := by simp [hk]
          have HON : Hid (∀ W {m' : Nat}, Disk B W b m' S → Calls Try.prog 27 #[.pointer (some ⟨b, 0, none⟩)] W fun e w' => e = .returned (.bool false) ∧ w' = W) := Lib.hid fun W _ hd => by have := d_on hd; rw [HOUT.out] at this; exact this
          have hap := d_syncDir HL.out.d (by omega)
          rw [out_syncDir HOUT.out] at hap
          have HA := Lib.hid hap
          clear hap
          go_wp2_with (first | (go_at_call 13; refine HA.out.mono ?_; rintro e w5 ⟨rfl, hD5, hB5⟩; have HL5 := Lib.hid (HL.out.post (Below.refl _ _) hD5 hB5); clear hD5 hB5) | (go_at_call 27; refine (HON.out _ HL5.out.d).mono ?_; rintro e w8 ⟨rfl, rfl⟩) | (go_at_call 18; refine (d_used HL5.out.d).mono ?_; rintro e w9 ⟨rfl, hb9⟩; have HL9 := Lib.hid (HL5.out.below hb9)) | go_in)
          go_roundw
          case rel => exact ⟨i + 1, _, by omega, by go_num, by omega, HL9.out⟩
          case measure => simp [intOf]; omega
        · skip
          have e0 : (kd == 0) = false := by simpa using hk0
          have e1 : (kd == 1) = false := by simpa using hk1
          have e2 : (kd == 2) = false := by simpa using hk2
          have e3 : (kd == 3) = false := by simpa using hk3
          have e4 : (kd == 4) = false := by simpa using hk4
          have e5 : (kd == 5) = false := by simpa using hk5
          have HON : Hid (∀ W {m' : Nat}, Disk B W b m' S → Calls Try.prog 27 #[.pointer (some ⟨b, 0, none⟩)] W fun e w' => e = .returned (.bool false) ∧ w' = W) := Lib.hid fun W _ hd => by have := d_on hd; rw [HOUT.out] at this; exact this
          have HL5 := HL
          go_wp2_with (first | (go_at_call 27; refine (HON.out _ HL5.out.d).mono ?_; rintro e w8 ⟨rfl, rfl⟩) | (go_at_call 18; refine (d_used HL5.out.d).mono ?_; rintro e w9 ⟨rfl, hb9⟩; have HL9 := Lib.hid (HL5.out.below hb9)) | go_in)
          go_roundw
          case rel => exact ⟨i + 1, _, by omega, by go_num, by omega, HL9.out⟩
          case measure => simp [intOf]; omega
      · have hil : i = len := by omega
        subst hil
        have d2 : decide ((i : Int) < (i : Int)) = false := decide_eq_false (by omega)
        have HL := Lib.hid hL
        have HC := Lib.hid (d_crash hL.d (Below.refl _ _) (by omega) (names := 0) (keep := []) (rd_nil wr) (by simp) (fun h0 => absurd h0 (by simp)))
        have hco := crash_out S 0 []
        have HC : Hid (Calls Try.prog 15 #[.pointer (some ⟨b, 0, none⟩), .int .i64 0, .slice none 0 0] wr (DPost B wr b (m + 1) (S.crash 0 []) (.tuple #[]))) := HC
        generalize S.crash 0 [] = S9 at *
        have HS9 := Lib.hid hco
        clear hL hco
        go_wp2_with (first
          | (go_at_call 15; refine HC.out.mono ?_; rintro e w5 ⟨rfl, hD5, hB5⟩; have HL5 := Lib.hid (HL.out.post (Below.refl _ _) hD5 hB5); have hon := d_on hD5; rw [HS9.out] at hon; have hsd := d_syncDir hD5 (by omega); rw [on_syncDir HS9.out] at hsd; clear hD5 hB5)
          | (go_at_call 27; refine hon.mono ?_; rintro e w8 ⟨rfl, rfl⟩)
          | (go_at_call 13; refine hsd.mono ?_; rintro e w9 ⟨rfl, hD9, hB9⟩; have HL9 := Lib.hid (HL5.out.post (Below.refl _ _) hD9 hB9); clear hD9 hB9)
          | go_in)
        go_ret
        exact ⟨rfl, HL9.out.bel⟩
end Go.Proofs.Ytpckjinlopmbcaa
