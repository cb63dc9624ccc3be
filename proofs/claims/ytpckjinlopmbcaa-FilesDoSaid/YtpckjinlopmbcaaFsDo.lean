/-
  FilesDo.
-/
import Derived.Test.YtpckjinlopmbcaaFsDr
namespace Go.Proofs.Ytpckjinlopmbcaa
set_option linter.unusedVariables false
set_option maxRecDepth 100000
set_option linter.unusedSimpArgs false
open Go.RowKit Go.Maps
open Go.Proofs.YtpckjinlopmbcaaW.PrintLast
set_option maxHeartbeats 1600000 in
theorem f_names_eq {W : World} {l : Dir} {va vb : Value} (ha : Rd W va (l.map (·.1))) (hb : RdN W vb l) (hl : l.length ≤ 1000) : Calls Try.prog 24 #[va, vb] W fun e w' => e = .returned (.bool true) ∧ Below W.heap.size W w' := by
  obtain ⟨aa, ca, rfl, -, -, hca⟩ := id ha
  obtain ⟨ab, cb, rfl, -, -, hcb⟩ := id hb
  rw [List.length_map] at hca ⊢
  clear ha hb
  have dn : ((l.length : Int) != (l.length : Int)) = false := by simp
  go_enter Try.func24, Try.ntmps24
  go_wp2_with fail
  go_loopw [5] (fun iv wr => ∃ i : Nat, i ≤ l.length ∧ iv = .int .i64 i ∧ Below W.heap.size W wr) (fun iv _ => l.length - (intOf iv).toNat)
  case atStart => exact ⟨0, by omega, rfl, Below.refl _ _⟩
  case round =>
    obtain ⟨i, hi, rfl, hB⟩ := hrel
    by_cases hlt : i < l.length
    · have d1 : decide ((i : Int) < (l.length : Int)) = true := decide_eq_true (by omega)
      obtain ⟨x, hx⟩ : ∃ x, l[i]? = some x := ⟨_, List.getElem?_eq_getElem hlt⟩
      obtain ⟨ga, oa, rfl, hga, hcella⟩ := hca (by omega)
      obtain ⟨gb, ob, cs, rfl, hgb, hcellb⟩ := hcb (by omega)
      have hxa : (l.map (·.1)).getD i 0 = x.1 := by rw [List.getD_eq_getElem?_getD, List.getElem?_map, hx]; rfl
      have k1 : wr.cell? ⟨ga, oa + i, none⟩ = some (.int .i64 x.1) := by rw [← hxa]; exact (hB.cell (p := ⟨ga, _, none⟩) hga).trans (hcella i hlt)
      have k2 : wr.cell? ⟨gb, ob + i * 2, none⟩ = some (.int .i64 x.1) := (hB.cell (p := ⟨gb, _, none⟩) hgb.lt).trans (hcellb i x hx).1
      have i0 : (0 : Int) ≤ (i : Int) := by omega
      have i1 : (i : Int) < (l.length : Int) := by omega
      have wi : IntKind.i64.wrap ((i : Int) + 1) = (i : Int) + 1 := IntWalk.i64_in _ (by omega)
      have HB := Lib.hid hB
      clear hB hgb hcella hcellb hca hcb hxa hx
      go_wp2_with fail
      refine start_ (n := 10) (S := fun w' => w'.cell? ⟨ga, oa + i, none⟩ = some (.int .i64 x.1) ∧ w'.cell? ⟨gb, ob + i * 2, none⟩ = some (.int .i64 x.1)) (ds := []) #[false, false, false, false, false, false, false, false, false, false] (by kernel_rfl) rfl rfl ⟨k1, k2⟩ (fun hHeld => ?_)
      refine pure_ (i := 0) (N := some 17) (v := ?_) (a' := ?_) #[true, false, false, false, false, false, false, false, false, false] rfl rfl (by kernel_rfl) (fun _ _ _ h => h) (Or.inl ⟨by rfl, ?_⟩) ?_ ?_
      rotate_left
      · intro w'
        go_simp
        with_reducible rfl
      rotate_left
      · simp only [Act.put, List.setIfInBounds_toArray, List.set_cons_zero, List.set_cons_succ, i64_w, i32_w]
        rfl
      refine pure_ (i := 1) (N := some 18) (v := ?_) (a' := ?_) #[true, true, false, false, false, false, false, false, false, false] rfl rfl (by kernel_rfl) (fun _ _ _ h => h) (Or.inl ⟨by rfl, ?_⟩) ?_ ?_
      rotate_left
      · intro w'
        go_simp
        with_reducible rfl
      rotate_left
      · simp only [Act.put, List.setIfInBounds_toArray, List.set_cons_zero, List.set_cons_succ, i64_w, i32_w]
        rfl
      refine pure_ (i := 2) (N := some 19) (v := ?_) (a' := ?_) #[true, true, true, false, false, false, false, false, false, false] rfl rfl (by kernel_rfl) (fun _ _ _ h => h) (Or.inl ⟨by rfl, ?_⟩) ?_ ?_
      rotate_left
      · intro w'
        go_simp
        with_reducible rfl
      rotate_left
      · simp only [Act.put, List.setIfInBounds_toArray, List.set_cons_zero, List.set_cons_succ, i64_w, i32_w]
        rfl
      refine pure_ (i := 4) (N := some 21) (v := ?_) (a' := ?_) #[true, true, true, false, true, false, false, false, false, false] rfl rfl (by kernel_rfl) (fun _ _ _ h => h) (Or.inl ⟨by rfl, ?_⟩) ?_ ?_
      rotate_left
      · intro w'
        go_simp
        with_reducible rfl
      rotate_left
      · simp only [Act.put, List.setIfInBounds_toArray, List.set_cons_zero, List.set_cons_succ, i64_w, i32_w]
        rfl
      refine pure_ (i := 5) (N := some 22) (v := ?_) (a' := ?_) #[true, true, true, false, true, true, false, false, false, false] rfl rfl (by kernel_rfl) (fun _ _ _ h => h) (Or.inl ⟨by rfl, ?_⟩) ?_ ?_
      rotate_left
      · intro w'
        go_simp
        with_reducible rfl
      rotate_left
      · simp only [Act.put, List.setIfInBounds_toArray, List.set_cons_zero, List.set_cons_succ, i64_w, i32_w]
        rfl
      refine pure_ (i := 6) (N := some 23) (v := ?_) (a' := ?_) #[true, true, true, false, true, true, true, false, false, false] rfl rfl (by kernel_rfl) (fun _ _ _ h => h) (Or.inl ⟨by rfl, ?_⟩) ?_ ?_
      rotate_left
      · intro w'
        go_simp
        with_reducible rfl
      rotate_left
      · simp only [Act.put, List.setIfInBounds_toArray, List.set_cons_zero, List.set_cons_succ, i64_w, i32_w]
        rfl
      refine pure_ (i := 7) (N := some 24) (v := ?_) (a' := ?_) #[true, true, true, false, true, true, true, true, false, false] rfl rfl (by kernel_rfl) (fun _ _ _ h => h) (Or.inl ⟨by rfl, ?_⟩) ?_ ?_
      rotate_left
      · intro w'
        go_simp
        with_reducible rfl
      rotate_left
      · simp only [Act.put, List.setIfInBounds_toArray, List.set_cons_zero, List.set_cons_succ, i64_w, i32_w]
        rfl
      refine take_ (i := 3) (N := some 20) (v := ?_) (a' := ?_) #[true, true, true, true, true, true, true, true, false, false] rfl rfl (by kernel_rfl) (fun _ _ _ h => h) (Or.inl ⟨by rfl, ?_⟩) hHeld ?_ ?_
      rotate_left
      · rintro w' ⟨s0, s1⟩
        go_simp
        with_reducible rfl
      rotate_left
      · simp only [Act.put, List.setIfInBounds_toArray, List.set_cons_zero, List.set_cons_succ, i64_w, i32_w]
        rfl
      refine take_ (i := 8) (N := some 25) (v := ?_) (a' := ?_) #[true, true, true, true, true, true, true, true, true, false] rfl rfl (by kernel_rfl) (fun _ _ _ h => h) (Or.inl ⟨by rfl, ?_⟩) hHeld ?_ ?_
      rotate_left
      · rintro w' ⟨s0, s1⟩
        go_simp
        with_reducible rfl
      rotate_left
      · simp only [Act.put, List.setIfInBounds_toArray, List.set_cons_zero, List.set_cons_succ, i64_w, i32_w]
        rfl
      refine pure_ (i := 9) (N := some 26) (v := ?_) (a' := ?_) #[true, true, true, true, true, true, true, true, true, true] rfl rfl (by kernel_rfl) (fun _ _ _ h => h) (Or.inl ⟨by rfl, ?_⟩) ?_ ?_
      rotate_left
      · intro w'
        go_simp
        with_reducible rfl
      rotate_left
      · simp only [Act.put, List.setIfInBounds_toArray, List.set_cons_zero, List.set_cons_succ, i64_w, i32_w]
        rfl
      try clear hHeld
      refine done_ (by kernel_rfl) ?_
      go_wp2_with fail
      go_roundw
      case rel => exact ⟨i + 1, by omega, by go_num, HB.out.drew⟩
      case measure => simp [intOf]; omega
    · have d1 : decide ((i : Int) < (l.length : Int)) = false := decide_eq_false (by omega)
      have HB := Lib.hid hB
      clear hB hca hcb
      go_wp2_with fail
      go_ret
      exact ⟨rfl, HB.out⟩
section
variable {Z : Nat → Prop} {W : World} {B bd br m : Nat} {S : FS}
theorem f_does (h : Two Z W B bd br m S S) (hM : MayI S) (hm : m < 1000) {kd nm nn : Int} {bs ks : List Int} {av ak : Option Addr} {cv ck : Nat} (n1 : (Lit.int .i64 nm).wf = true) (n2 : (Lit.int .i64 nn).wf = true) (hb : Rb W (.slice av bs.length cv) bs) (hk : Rd W (.slice ak ks.length ck) ks) (hbl : bs.length ≤ 300) (hkl : ks.length ≤ 300)
    (hbB : 0 < bs.length → ∀ k, (Value.slice av bs.length cv).ownBlock = some k → k < B) (hkB : 0 < ks.length → ∀ k, (Value.slice ak ks.length ck).ownBlock = some k → k < B) :
    Calls Try.prog 23 #[.pointer (some ⟨bd, 0, none⟩), .pointer (some ⟨br, 0, none⟩), .agg #[.int .i64 kd, .int .i64 nm, .int .i64 nn, .slice av bs.length cv, .slice ak ks.length ck]] W (DoesP Z W B bd br m) := by
  by_cases h0 : kd = 0
  · subst h0; exact f_does_append h hM hm n1 n2 hb hk hbl hkl hbB hkB
  by_cases h1 : kd = 1
  · subst h1; exact f_does_read h hM hm n1 n2 hb hk hbl hkl hbB hkB
  by_cases h2 : kd = 2
  · subst h2; exact f_does_sync h hM hm n1 n2 hb hk hbl hkl hbB hkB
  by_cases h3 : kd = 3
  · subst h3; exact f_does_rename h hM hm n1 n2 hb hk hbl hkl hbB hkB
  by_cases h4 : kd = 4
  · subst h4; exact f_does_remove h hM hm n1 n2 hb hk hbl hkl hbB hkB
  by_cases h5 : kd = 5
  · subst h5; exact f_does_syncDir h hM hm n1 n2 hb hk hbl hkl hbB hkB
  by_cases h6 : kd = 6
  · subst h6; exact f_does_cut h hM hm n1 n2 hb hk hbl hkl hbB hkB
  by_cases h7 : kd = 7
  · subst h7; exact f_does_crash h hM hm n1 n2 hb hk hbl hkl hbB hkB
  exact f_does_none h hM hm n1 n2 hb hk hbl hkl hbB hkB (fun j hj1 hj2 e => by omega)
end
set_option maxHeartbeats 6400000 in
theorem f_do {w : World} {room : Int} (hroom : (Lit.int .i64 room).wf = true) {a : Option Addr} {len cap : Nat} {f : Nat → OpF} {vb vk : Nat → Value} (h : IsOpsF w a len f vb vk) (hl : len ≤ 9223372036854775807) :
    Calls Try.prog 7 #[.int .i64 room, .slice a len cap] w fun e w' => e = .returned (.bool true) ∧ Below w.heap.size w w' := by
  have HO := Lib.hid h
  clear h
  go_enter Try.func7, Try.ntmps7
  go_wp2_with fail
  refine (f_awake w).mono ?_
  rintro e w1 ⟨rfl, hB1⟩
  go_wp2_with fail
  refine (f_few (HO.out.below hB1 (Nat.le_refl _)) hl).mono ?_
  rintro e w2 ⟨r, rfl, hr1, hB2⟩
  have hB2' := hB1.trans (hB2.mono hB1.size)
  clear hB1 hB2
  go_wp2_with fail
  refine (d_new w2 room hroom).mono ?_
  rintro e w3 ⟨b, rfl, hD3, hB3⟩
  have hL3 : LoopF w w3 w2.heap.size b 0 (zeroF room) := ⟨hD3, hB2'.trans (hB3.mono hB2'.size), hB2'.size⟩
  clear hB3 hB2' hD3
  generalize w2.heap.size = B at *
  clear w1 w2
  cases r with
  | false =>
    go_wp2_with fail
    go_ret
    exact ⟨rfl, hL3.bel⟩
  | true =>
    have hF := hr1 rfl
    have HF := Lib.hid hF
    have h150 := hF.1
    clear hr1 hF
    go_wp2_with fail
    refine (r_new w3 room).mono ?_
    rintro e w4 ⟨br, fp2, RR, rfl, hR4, hB4⟩
    have hle := hL3.le
    have hT4 : Two (fun _ => False) w4 B b br 0 (zeroF room) (zeroF room) := by
      obtain ⟨hB, fp, R, hd⟩ := hL3.d
      refine ⟨Nat.le_trans hB hB4.size, fun q hq => hq.elim, fp, R, fp2, RR, hd.below hB4, ⟨hR4.blk, hR4.fpd, hR4.parts, fun q hq => ⟨Nat.le_trans hB (hR4.lt q hq).1, (hR4.lt q hq).2⟩⟩, fun q hq hq2 => ?_, fun q hq => hq.elim⟩
      have := (hd.lt q hq).2
      have := (hR4.lt q hq2).1
      omega
    have hb4 : Below w.heap.size w w4 := hL3.bel.trans (hB4.mono hL3.bel.size)
    have hM0 : MayI (zeroF room) := ⟨fun c hc => by simp [zeroF] at hc, fun x hx => by simp [zeroF] at hx⟩
    clear hL3 hB4 hR4
    go_wp2_with fail
    go_loopw [9] (fun iv wr => ∃ (i m : Nat) (S : FS), i ≤ len ∧ iv = .int .i64 i ∧ m ≤ i ∧ Two (fun _ => False) wr B b br m S S ∧ MayI S ∧ Below w.heap.size w wr) (fun iv _ => len - (intOf iv).toNat)
    case atStart => exact ⟨0, _, _, by omega, rfl, by omega, hT4, hM0, hb4⟩
    case round =>
      obtain ⟨i, m, S, hi, rfl, hm, hT, hM, hbw⟩ := hrel
      by_cases hlt : i < len
      · obtain ⟨bb, oo, rfl, hlb, hc⟩ := HO.out (by omega)
        have hA := hc i hlt
        have hAt := hA.below hbw (Nat.le_refl _)
        have hfew := HF.out.2 i hlt
        have hblk := fun h0 => rb_block hA.rb h0
        have hkbl := fun h0 => rd_block hA.rk h0
        clear hA hc
        generalize f i = op at *
        obtain ⟨kd, nm, nn, bs, ks⟩ := op
        obtain ⟨c0, c1, c2, c3, c4, rb, rk, n1, n2⟩ := hAt
        simp only at c0 c1 c2 c3 c4 rb rk n1 n2 hfew hblk hkbl
        obtain ⟨av, cv, ev, -⟩ := id rb
        obtain ⟨ak, ck, ek, -⟩ := id rk
        rw [ev] at c3 rb hblk
        rw [ek] at c4 rk hkbl
        have d2 : decide ((i : Int) < (len : Int)) = true := decide_eq_true (by omega)
        have i1 : (0 : Int) ≤ (i : Int) := by omega
        have i2 : (i : Int) < (len : Int) := by omega
        have wi : IntKind.i64.wrap ((i : Int) + 1) = (i : Int) + 1 := IntWalk.i64_in _ (by omega)
        have HDO := Lib.hid (f_does hT hM (show m < 1000 by omega) (kd := kd) n1 n2 rb rk (by omega) (by omega) (fun h0 k hk => Nat.lt_of_lt_of_le (hblk h0 k hk) hle) (fun h0 k hk => Nat.lt_of_lt_of_le (hkbl h0 k hk) hle))
        have HBW := Lib.hid hbw
        have HTL := Lib.hid hT.1
        clear hT hM rb rk ev ek hblk hkbl hbw
        go_wp2_with (first
          | (go_at_call 23; refine HDO.out.mono ?_; rintro e w5 ⟨rfl, S5, hT5, hM5, hK5⟩; have HB5 := Lib.hid (HBW.out.trans ((hK5.below (fun q hq => hq.2) HTL.out).mono hle)); have HI5 := Lib.hid (doc_of hT5.disk.inv hT5.disk.small hM5); have HU5 := Lib.hid hT5.disk.used_le; have HM5 := Lib.hid hM5; have HN5 := Lib.hid (show S5.now.length ≤ 1000 from Nat.le_trans hT5.disk.small.nowl hT5.disk.small.top); have HT5 := Lib.hid hT5; clear hT5 hM5 hK5)
          | (go_at_call 21; refine (d_names HT5.out.disk).mono ?_; rintro e w6 ⟨v6, rfl, ho6, hf6, hb6⟩; have HT6 := Lib.hid ((HT5.out.below hb6).less (Z' := fun _ => False) (fun q hq => hq.elim)); have HB6 := Lib.hid (HB5.out.trans (hb6.mono HB5.out.size)); obtain ⟨a6, k6, rfl⟩ := own_shape ho6; have HR6 := Lib.hid (own_rd ho6); clear ho6 hf6 hb6)
          | (go_at_call 25; refine (tr_Dir HT6.out HI5.out).mono ?_; rintro e w7 ⟨v7, rfl, hr7, hb7⟩; have HT7 := Lib.hid ((HT6.out.below hb7).less (Z' := fun _ => False) (fun q hq => hq.elim)); have HB7 := Lib.hid (HB6.out.trans (hb7.mono HB6.out.size)); have HNE := Lib.hid (f_names_eq (l := S5.now) (HR6.out.below hb7 (Nat.le_refl _)) hr7 HN5.out); obtain ⟨a7, k7, e7, -⟩ := id hr7; subst e7; clear hr7 hb7)
          | (go_at_call 24; refine HNE.out.mono ?_; rintro e w8 ⟨rfl, hb8⟩; have HT8 := Lib.hid ((HT7.out.below hb8).less (Z' := fun _ => False) (fun q hq => hq.elim)); have HB8 := Lib.hid (HB7.out.trans (hb8.mono HB7.out.size)); clear hb8)
          | go_in)
        have HT8d : Hid (Two (fun _ => False) w8.drew B b br (m + 1) S5 S5) := Lib.hid (HT8.out.keeps (F := fun _ => False) (Keeps.refl _ _).drew (fun _ h => h.elim))
        have c4x : w8.cell? ⟨br, 4, none⟩ = some (.bool S5.out) := HT8.out.out
        have hno : ((!S5.out) == S5.out) = false := by cases S5.out <;> rfl
        have hnu : ((S5.used : Int) != (S5.used : Int)) = false := by simp
        clear c0 c1 c2 c3 c4
        refine start_ (n := 22) (S := fun w' => w'.cell? ⟨br, 4, none⟩ = some (.bool S5.out)) (ds := []) #[false, false, false, false, false, false, false, false, false, false, false, false, false, false, false, false, false, false, false, false, false, false] (by kernel_rfl) rfl rfl (c4x) (fun hHeld => ?_)
        refine pure_ (i := 0) (N := some 52) (v := ?_) (a' := ?_) #[true, false, false, false, false, false, false, false, false, false, false, false, false, false, false, false, false, false, false, false, false, false] rfl rfl (by kernel_rfl) (fun _ _ _ h => h) (Or.inl ⟨by rfl, ?_⟩) ?_ ?_
        rotate_left
        · intro w'
          go_simp
          with_reducible rfl
        rotate_left
        · simp only [Act.put, List.setIfInBounds_toArray, List.set_cons_zero, List.set_cons_succ, i64_w, i32_w]
          rfl
        refine pure_ (i := 1) (N := some 53) (v := ?_) (a' := ?_) #[true, true, false, false, false, false, false, false, false, false, false, false, false, false, false, false, false, false, false, false, false, false] rfl rfl (by kernel_rfl) (fun _ _ _ h => h) (Or.inl ⟨by rfl, ?_⟩) ?_ ?_
        rotate_left
        · intro w'
          go_simp
          with_reducible rfl
        rotate_left
        · simp only [Act.put, List.setIfInBounds_toArray, List.set_cons_zero, List.set_cons_succ, i64_w, i32_w]
          rfl
        refine pure_ (i := 2) (N := some 54) (v := ?_) (a' := ?_) #[true, true, true, false, false, false, false, false, false, false, false, false, false, false, false, false, false, false, false, false, false, false] rfl rfl (by kernel_rfl) (fun _ _ _ h => h) (Or.inl ⟨by rfl, ?_⟩) ?_ ?_
        rotate_left
        · intro w'
          go_simp
          with_reducible rfl
        rotate_left
        · simp only [Act.put, List.setIfInBounds_toArray, List.set_cons_zero, List.set_cons_succ, i64_w, i32_w]
          rfl
        refine pure_ (i := 3) (N := some 55) (v := ?_) (a' := ?_) #[true, true, true, true, false, false, false, false, false, false, false, false, false, false, false, false, false, false, false, false, false, false] rfl rfl (by kernel_rfl) (fun _ _ _ h => h) (Or.inl ⟨by rfl, ?_⟩) ?_ ?_
        rotate_left
        · intro w'
          go_simp
          with_reducible rfl
        rotate_left
        · simp only [Act.put, List.setIfInBounds_toArray, List.set_cons_zero, List.set_cons_succ, i64_w, i32_w]
          rfl
        refine pure_ (i := 4) (N := some 56) (v := ?_) (a' := ?_) #[true, true, true, true, true, false, false, false, false, false, false, false, false, false, false, false, false, false, false, false, false, false] rfl rfl (by kernel_rfl) (fun _ _ _ h => h) (Or.inl ⟨by rfl, ?_⟩) ?_ ?_
        rotate_left
        · intro w'
          go_simp
          with_reducible rfl
        rotate_left
        · simp only [Act.put, List.setIfInBounds_toArray, List.set_cons_zero, List.set_cons_succ, i64_w, i32_w]
          rfl
        refine pure_ (i := 5) (N := some 57) (v := ?_) (a' := ?_) #[true, true, true, true, true, true, false, false, false, false, false, false, false, false, false, false, false, false, false, false, false, false] rfl rfl (by kernel_rfl) (fun _ _ _ h => h) (Or.inl ⟨by rfl, ?_⟩) ?_ ?_
        rotate_left
        · intro w'
          go_simp
          with_reducible rfl
        rotate_left
        · simp only [Act.put, List.setIfInBounds_toArray, List.set_cons_zero, List.set_cons_succ, i64_w, i32_w]
          rfl
        refine pure_ (i := 6) (N := some 58) (v := ?_) (a' := ?_) #[true, true, true, true, true, true, true, false, false, false, false, false, false, false, false, false, false, false, false, false, false, false] rfl rfl (by kernel_rfl) (fun _ _ _ h => h) (Or.inl ⟨by rfl, ?_⟩) ?_ ?_
        rotate_left
        · intro w'
          go_simp
          with_reducible rfl
        rotate_left
        · simp only [Act.put, List.setIfInBounds_toArray, List.set_cons_zero, List.set_cons_succ, i64_w, i32_w]
          rfl
        refine pure_ (i := 7) (N := some 59) (v := ?_) (a' := ?_) #[true, true, true, true, true, true, true, true, false, false, false, false, false, false, false, false, false, false, false, false, false, false] rfl rfl (by kernel_rfl) (fun _ _ _ h => h) (Or.inl ⟨by rfl, ?_⟩) ?_ ?_
        rotate_left
        · intro w'
          go_simp
          with_reducible rfl
        rotate_left
        · simp only [Act.put, List.setIfInBounds_toArray, List.set_cons_zero, List.set_cons_succ, i64_w, i32_w]
          rfl
        refine pure_ (i := 9) (N := some 61) (v := ?_) (a' := ?_) #[true, true, true, true, true, true, true, true, false, true, false, false, false, false, false, false, false, false, false, false, false, false] rfl rfl (by kernel_rfl) (fun _ _ _ h => h) (Or.inl ⟨by rfl, ?_⟩) ?_ ?_
        rotate_left
        · intro w'
          go_simp
          with_reducible rfl
        rotate_left
        · simp only [Act.put, List.setIfInBounds_toArray, List.set_cons_zero, List.set_cons_succ, i64_w, i32_w]
          rfl
        refine one_ (i := 8) (N := some 60) #[true, true, true, true, true, true, true, true, true, true, false, false, false, false, false, false, false, false, false, false, false, false] rfl rfl (by kernel_rfl) (by decide) (fun K hK => ?_)
        refine goes_ Try.func18 (by kernel_rfl) rfl #[.pointer (some ⟨b, 0, none⟩)] (by rfl) rfl rfl (by simp only [List.map_toArray, List.map_cons, List.map_nil]; rfl) ?_
        with_reducible refine ((d_used HT8d.out.disk)).mono ?_
        rintro e w9 ⟨rfl, hb9⟩
        refine ⟨_, rfl, ?_⟩
        have HT9 := Lib.hid ((HT8d.out.below hb9).less (Z' := fun _ => False) (fun q hq => hq.elim))
        try clear hHeld
        refine hK.out _ _ (HT9.out.out) (fun hHeld => ?_)
        clear hK K
        refine norm_ (a' := ?_) ?_ ?_
        rotate_left
        · show Act.put _ (some 60) _ = _
          simp only [Act.put, List.setIfInBounds_toArray, List.set_cons_zero, List.set_cons_succ, i64_w, i32_w]
          rfl
        refine one_ (i := 10) (N := some 62) #[true, true, true, true, true, true, true, true, true, true, true, false, false, false, false, false, false, false, false, false, false, false] rfl rfl (by kernel_rfl) (by decide) (fun K hK => ?_)
        refine goes_ Try.func26 (by kernel_rfl) rfl #[.pointer (some ⟨br, 0, none⟩)] (by rfl) rfl rfl (by simp only [List.map_toArray, List.map_cons, List.map_nil]; rfl) ?_
        with_reducible refine ((tr_used HT9.out HI5.out HU5.out)).mono ?_
        rintro e w10 ⟨rfl, hb10⟩
        refine ⟨_, rfl, ?_⟩
        have HT10 := Lib.hid ((HT9.out.below hb10).less (Z' := fun _ => False) (fun q hq => hq.elim))
        try clear hHeld
        refine hK.out _ _ (HT10.out.out) (fun hHeld => ?_)
        clear hK K
        refine norm_ (a' := ?_) ?_ ?_
        rotate_left
        · show Act.put _ (some 62) _ = _
          simp only [Act.put, List.setIfInBounds_toArray, List.set_cons_zero, List.set_cons_succ, i64_w, i32_w]
          rfl
        refine pure_ (i := 11) (N := some 63) (v := ?_) (a' := ?_) #[true, true, true, true, true, true, true, true, true, true, true, true, false, false, false, false, false, false, false, false, false, false] rfl rfl (by kernel_rfl) (fun _ _ _ h => h) (Or.inl ⟨by rfl, ?_⟩) ?_ ?_
        rotate_left
        · intro w'
          go_simp
          with_reducible rfl
        rotate_left
        · simp only [Act.put, List.setIfInBounds_toArray, List.set_cons_zero, List.set_cons_succ, i64_w, i32_w]
          rfl
        refine pure_ (i := 12) (N := some 64) (v := ?_) (a' := ?_) #[true, true, true, true, true, true, true, true, true, true, true, true, true, false, false, false, false, false, false, false, false, false] rfl rfl (by kernel_rfl) (fun _ _ _ h => h) (Or.inl ⟨by rfl, ?_⟩) ?_ ?_
        rotate_left
        · intro w'
          go_simp
          with_reducible rfl
        rotate_left
        · simp only [Act.put, List.setIfInBounds_toArray, List.set_cons_zero, List.set_cons_succ, i64_w, i32_w]
          rfl
        refine pure_ (i := 13) (N := some 65) (v := ?_) (a' := ?_) #[true, true, true, true, true, true, true, true, true, true, true, true, true, true, false, false, false, false, false, false, false, false] rfl rfl (by kernel_rfl) (fun _ _ _ h => h) (Or.inl ⟨by rfl, ?_⟩) ?_ ?_
        rotate_left
        · intro w'
          go_simp
          with_reducible rfl
        rotate_left
        · simp only [Act.put, List.setIfInBounds_toArray, List.set_cons_zero, List.set_cons_succ, i64_w, i32_w]
          rfl
        refine pure_ (i := 14) (N := some 66) (v := ?_) (a' := ?_) #[true, true, true, true, true, true, true, true, true, true, true, true, true, true, true, false, false, false, false, false, false, false] rfl rfl (by kernel_rfl) (fun _ _ _ h => h) (Or.inl ⟨by rfl, ?_⟩) ?_ ?_
        rotate_left
        · intro w'
          go_simp
          with_reducible rfl
        rotate_left
        · simp only [Act.put, List.setIfInBounds_toArray, List.set_cons_zero, List.set_cons_succ, i64_w, i32_w]
          rfl
        refine pure_ (i := 16) (N := some 68) (v := ?_) (a' := ?_) #[true, true, true, true, true, true, true, true, true, true, true, true, true, true, true, false, true, false, false, false, false, false] rfl rfl (by kernel_rfl) (fun _ _ _ h => h) (Or.inl ⟨by rfl, ?_⟩) ?_ ?_
        rotate_left
        · intro w'
          go_simp
          with_reducible rfl
        rotate_left
        · simp only [Act.put, List.setIfInBounds_toArray, List.set_cons_zero, List.set_cons_succ, i64_w, i32_w]
          rfl
        refine pure_ (i := 17) (N := some 69) (v := ?_) (a' := ?_) #[true, true, true, true, true, true, true, true, true, true, true, true, true, true, true, false, true, true, false, false, false, false] rfl rfl (by kernel_rfl) (fun _ _ _ h => h) (Or.inl ⟨by rfl, ?_⟩) ?_ ?_
        rotate_left
        · intro w'
          go_simp
          with_reducible rfl
        rotate_left
        · simp only [Act.put, List.setIfInBounds_toArray, List.set_cons_zero, List.set_cons_succ, i64_w, i32_w]
          rfl
        refine pure_ (i := 18) (N := some 70) (v := ?_) (a' := ?_) #[true, true, true, true, true, true, true, true, true, true, true, true, true, true, true, false, true, true, true, false, false, false] rfl rfl (by kernel_rfl) (fun _ _ _ h => h) (Or.inl ⟨by rfl, ?_⟩) ?_ ?_
        rotate_left
        · intro w'
          go_simp
          with_reducible rfl
        rotate_left
        · simp only [Act.put, List.setIfInBounds_toArray, List.set_cons_zero, List.set_cons_succ, i64_w, i32_w]
          rfl
        refine take_ (i := 19) (N := some 71) (v := ?_) (a' := ?_) #[true, true, true, true, true, true, true, true, true, true, true, true, true, true, true, false, true, true, true, true, false, false] rfl rfl (by kernel_rfl) (fun _ _ _ h => h) (Or.inl ⟨by rfl, ?_⟩) hHeld ?_ ?_
        rotate_left
        · intro w' s0
          go_simp
          with_reducible rfl
        rotate_left
        · simp only [Act.put, List.setIfInBounds_toArray, List.set_cons_zero, List.set_cons_succ, i64_w, i32_w]
          rfl
        refine one_ (i := 15) (N := some 67) #[true, true, true, true, true, true, true, true, true, true, true, true, true, true, true, true, true, true, true, true, false, false] rfl rfl (by kernel_rfl) (by decide) (fun K hK => ?_)
        refine goes_ Try.func27 (by kernel_rfl) rfl #[.pointer (some ⟨b, 0, none⟩)] (by rfl) rfl rfl (by simp only [List.map_toArray, List.map_cons, List.map_nil]; rfl) ?_
        with_reducible refine ((d_on HT10.out.disk)).mono ?_
        rintro e w11 ⟨rfl, rfl⟩
        refine ⟨_, rfl, ?_⟩
        try clear hHeld
        refine hK.out _ _ (HT10.out.out) (fun hHeld => ?_)
        clear hK K
        refine norm_ (a' := ?_) ?_ ?_
        rotate_left
        · show Act.put _ (some 67) _ = _
          simp only [Act.put, List.setIfInBounds_toArray, List.set_cons_zero, List.set_cons_succ, i64_w, i32_w]
          rfl
        refine pure_ (i := 20) (N := some 72) (v := ?_) (a' := ?_) #[true, true, true, true, true, true, true, true, true, true, true, true, true, true, true, true, true, true, true, true, true, false] rfl rfl (by kernel_rfl) (fun _ _ _ h => h) (Or.inl ⟨by rfl, ?_⟩) ?_ ?_
        rotate_left
        · intro w'
          go_simp
          with_reducible rfl
        rotate_left
        · simp only [Act.put, List.setIfInBounds_toArray, List.set_cons_zero, List.set_cons_succ, i64_w, i32_w]
          rfl
        refine pure_ (i := 21) (N := some 73) (v := ?_) (a' := ?_) #[true, true, true, true, true, true, true, true, true, true, true, true, true, true, true, true, true, true, true, true, true, true] rfl rfl (by kernel_rfl) (fun _ _ _ h => h) (Or.inl ⟨by rfl, ?_⟩) ?_ ?_
        rotate_left
        · intro w'
          go_simp
          with_reducible rfl
        rotate_left
        · simp only [Act.put, List.setIfInBounds_toArray, List.set_cons_zero, List.set_cons_succ, i64_w, i32_w]
          rfl
        try clear hHeld
        refine done_ (by kernel_rfl) ?_
        go_wp2_with fail
        have hz8 : w.heap.size ≤ w8.drew.heap.size := HB8.out.size
        have hz9 := hb9.size
        exact ⟨⟨i + 1, m + 1, S5, by omega, by go_num, by omega, HT10.out, HM5.out, (HB8.out.drew.trans (hb9.mono hz8)).trans (hb10.mono (by omega))⟩, by simp [intOf]; omega⟩
      · have hil : i = len := by omega
        subst hil
        have d2 : decide ((i : Int) < (i : Int)) = false := decide_eq_false (by omega)
        have HBW := Lib.hid hbw
        clear hT hM hbw
        go_wp2_with fail
        go_ret
        exact ⟨rfl, HBW.out⟩
end Go.Proofs.Ytpckjinlopmbcaa
