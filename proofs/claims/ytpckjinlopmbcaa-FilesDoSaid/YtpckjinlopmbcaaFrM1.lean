/-
  The document's disk: dir, Dir, find, Used.
-/
import Derived.Test.YtpckjinlopmbcaaFrW
import Derived.Test.YtpckjinlopmbcaaFsRp
import Derived.Test.YtpckjinlopmbcaaFsNm
namespace Go.Proofs.Ytpckjinlopmbcaa
set_option linter.unusedVariables false
set_option maxRecDepth 100000
set_option linter.unusedSimpArgs false
open Go.RowKit Go.Maps
open Go.Proofs.YtpckjinlopmbcaaW.PrintLast
/-- Its elder name is one that may be. -/
def ChgMay : Chg → Prop
  | .put n _ => mayN n
  | .ren n _ to => mayN n ∧ mayN to
  | .rem _ => True
/-- What the document's methods need of a disk. -/
structure DocI (S : FS) : Prop where
  inv : FInv S
  may : ∀ c ∈ S.waits, ChgMay c
  namesK : ∀ x ∈ S.kept, mayN x.1
  wl : S.kept.length + S.waits.length ≤ 1000
  ml : S.many ≤ 1000
  len : ∀ (f : Nat), (S.files f).b.length ≤ 300000
section
variable {w w' W : World} {F fp fp' : Nat → Prop} {R R' : RRef} {S : FS} {base br : Nat}
theorem RRep.change_at (h : RRep w base fp br R S) {i : Nat} {c : Chg} (hc : S.waits[i]? = some c) (hb : Below w.heap.size w W) : ∃ g cw, R.vW = .slice (some ⟨g, 0, none⟩) S.waits.length cw ∧ S.waits.length ≤ cw ∧ cw ≤ maxLen ∧ ∀ j, j < 3 → W.cell? ⟨g, i * 3 + j, none⟩ = (chV c)[j]? := by
  have hi := (List.getElem?_eq_some_iff.1 hc).1
  obtain ⟨g, cw, e, h1, h2⟩ := own_open h.parts.waits (by omega)
  have hO := own_keeps h.parts.waits (Keeps.ofBelow (F := fun _ => False) hb) (fun _ _ h => h)
  rw [e] at hO
  exact ⟨g, cw, e, h1, h2, fun j hj => (World.ownsRow.cellAt hO (i * 3 + j) (by omega)).trans (chC_get hc hj)⟩
/-- What dir leaves. -/
def DirP (w : World) (fp : Nat → Prop) (l : Dir) (e : Ending) (w' : World) : Prop := ∃ v', e = .returned v' ∧ RdN w' v' l ∧ (0 < l.length → ∀ k, v'.ownBlock = some k → fp k ∨ w.heap.size ≤ k) ∧ Below w.heap.size w w'
set_option maxHeartbeats 3200000 in
theorem r_dir (h : RRep w base fp br R S) (hI : DocI S) (many : Nat) (hm : many ≤ S.waits.length) : Calls Try.prog 49 #[.pointer (some ⟨br, 0, none⟩), .int .i64 many] w (DirP w fp (S.upto many)) := by
  have c2 : w.cell? ⟨br, 2, none⟩ = some R.vK := h.blk.cell 2
  have hwl := hI.wl
  have HH := Lib.hid h
  have HI := Lib.hid hI
  obtain ⟨aK, cK, eK, -⟩ := id h.parts.kept
  rw [eK] at c2
  have hK : RdN w (.slice aK S.kept.length cK) (S.upto 0) ∧ (0 < (S.upto 0).length → ∀ k, (Value.slice aK S.kept.length cK).ownBlock = some k → fp k ∨ w.heap.size ≤ k) := by
    rw [← eK]; exact ⟨h.parts.kept, fun h0 k hk => .inl (h.parts.fpK h0 k hk)⟩
  have HK := Lib.hid hK
  clear h hI eK hK
  go_enter Try.func49, Try.ntmps49
  go_wp2_with fail
  go_loopw [5, 6] (fun lv iv wr => ∃ i : Nat, i ≤ many ∧ iv = .int .i64 i ∧ RdN wr lv (S.upto i) ∧ (0 < (S.upto i).length → ∀ k, lv.ownBlock = some k → fp k ∨ w.heap.size ≤ k) ∧ Below w.heap.size w wr) (fun _ iv _ => many - (intOf iv).toNat)
  case atStart => exact ⟨0, by omega, rfl, HK.out.1, HK.out.2, Below.refl _ _⟩
  case round =>
    obtain ⟨i, hi, rfl, hR, hf, hB⟩ := hrel
    obtain ⟨al, cl, rfl, -⟩ := id hR
    by_cases hlt : i < many
    · have d1 : decide ((i : Int) < (many : Int)) = true := decide_eq_true (by omega)
      obtain ⟨c, hc⟩ : ∃ c, S.waits[i]? = some c := ⟨_, List.getElem?_eq_getElem (by omega)⟩
      obtain ⟨g, cw, ew, hcw1, hcw2, hcell⟩ := HH.out.change_at hc hB
      have c3 : wr.cell? ⟨br, 3, none⟩ = some R.vW := (HH.out.blk.below hB HH.out.blk.lt).cell 3
      rw [ew] at c3
      have k0 := hcell 0 (by omega)
      have k1 := hcell 1 (by omega)
      have k2 := hcell 2 (by omega)
      have hup := upto_succ S hc
      have hul := (upto_inv HI.out.inv i).2.2
      have hl1 : (S.upto i).length ≤ 100000 := by omega
      have hmy := HI.out.may c (List.mem_of_getElem? hc)
      have i0 : (0 : Int) ≤ (i : Int) := by omega
      have i1 : (i : Int) < (S.waits.length : Int) := by omega
      have wi : IntKind.i64.wrap ((i : Int) + 1) = (i : Int) + 1 := IntWalk.i64_in _ (by omega)
      have HR := Lib.hid hR
      have HB := Lib.hid hB
      have HUP := Lib.hid hup
      clear hR hB hup hcell hc
      have FIN := Lib.hid (show ∀ v5 w5 L, L = S.upto (i + 1) → RdN w5 v5 L → (0 < L.length → ∀ k, v5.ownBlock = some k → w.heap.size ≤ k) → Below w.heap.size w w5 → RdN w5 v5 (S.upto (i + 1)) ∧ (0 < (S.upto (i + 1)).length → ∀ k, v5.ownBlock = some k → fp k ∨ w.heap.size ≤ k) ∧ Below w.heap.size w w5 from fun v5 w5 L e h1 h2 h3 => by subst e; exact ⟨h1, fun h0 k hk => .inr (h2 h0 k hk), h3⟩)
      cases c with
      | put n f =>
        simp only [chV, List.getElem?_cons_zero, List.getElem?_cons_succ, Nat.add_zero] at k0 k1 k2
        have e := HUP.out
        have eL : setD (S.upto i) n (f : Int) = S.upto (i + 1) := by rw [e]; unfold setD; rw [if_neg (by omega)]; rfl
        have hX := HR.out.below ((Below.refl _ wr).alloc (Nat.le_refl _) (.cells #[.int .i64 n, .int .i64 f, .int .i64 (-1)] 87))
        have hbx := Blk.new wr #[.int .i64 n, .int .i64 f, .int .i64 (-1)] 87
        have b0 := hbx.cell 0
        have b1 := hbx.cell 1
        have b2 := hbx.cell 2
        simp only [List.getElem?_toArray, List.getElem?_cons_zero, List.getElem?_cons_succ] at b0 b1 b2
        have HS := Lib.hid (r_set hX (by omega) n f)
        rw [eL] at HS
        clear hX hbx e eL
        go_wp2_with (first | (go_at_call 58; refine HS.out.mono ?_; rintro e w5 ⟨v5, rfl, hR5, hf5, hb5⟩) | go_in)
        have hz : wr.heap.size ≤ (wr.alloc (.cells #[.int .i64 n, .int .i64 f, .int .i64 (-1)] 87)).heap.size := by simp
        have hs := HB.out.size
        exact ⟨⟨i + 1, by omega, by go_num, FIN.out v5 w5 _ rfl hR5 (fun h0 k hk => by have := hf5 h0 k hk; omega) ((HB.out.alloc HB.out.size _).trans (hb5.mono (by omega)))⟩, by simp [intOf]; omega⟩
      | ren n f to =>
        simp only [chV, List.getElem?_cons_zero, List.getElem?_cons_succ, Nat.add_zero] at k0 k1 k2
        have e := HUP.out
        have eL : setD (rmD (S.upto i) n) to (f : Int) = S.upto (i + 1) := by rw [e]; unfold setD; rw [if_neg (by omega)]; rfl
        have eR : setD (S.upto i) n (-1) = rmD (S.upto i) n := by unfold setD; rw [if_pos (by omega)]
        have hrl : (rmD (S.upto i) n).length ≤ 1000000 := by have : (rmD (S.upto i) n).length ≤ (S.upto i).length := List.length_filter_le _ _; omega
        have d0 : decide ((0 : Int) ≤ n) = true := decide_eq_true hmy.1.1
        have hX := HR.out.below ((Below.refl _ wr).alloc (Nat.le_refl _) (.cells #[.int .i64 to, .int .i64 f, .int .i64 n] 87))
        have hbx := Blk.new wr #[.int .i64 to, .int .i64 f, .int .i64 n] 87
        have b0 := hbx.cell 0
        have b1 := hbx.cell 1
        have b2 := hbx.cell 2
        simp only [List.getElem?_toArray, List.getElem?_cons_zero, List.getElem?_cons_succ] at b0 b1 b2
        have HS := Lib.hid (r_set hX (by omega) n (-1))
        rw [eR] at HS
        have HBX := Lib.hid hbx
        have hz : wr.heap.size + 1 = (wr.alloc (.cells #[.int .i64 to, .int .i64 f, .int .i64 n] 87)).heap.size := by simp
        have hs := HB.out.size
        have HX1 := Lib.hid (HB.out.alloc HB.out.size (.cells #[.int .i64 to, .int .i64 f, .int .i64 n] 87))
        have EL := Lib.hid eL
        clear hX hbx e eL eR hmy
        go_wp2_with (first | (go_at_call 58; refine HS.out.mono ?_; rintro e w5 ⟨v5, rfl, hR5, hf5, hb5⟩; have HS5 := Lib.hid (r_set hR5 hrl to f); rw [EL.out] at HS5; have hbx5 := HBX.out.below hb5 HBX.out.lt; have q0 := hbx5.cell 0; have q1 := hbx5.cell 1; have q2 := hbx5.cell 2; simp only [List.getElem?_toArray, List.getElem?_cons_zero, List.getElem?_cons_succ] at q0 q1 q2; have HB5 := Lib.hid (HX1.out.trans (hb5.mono (by omega))); obtain ⟨a5, c5, e5, -⟩ := id hR5; subst e5; clear hR5 hf5 hb5 hbx5 HS) | (go_at_call 58; refine HS5.out.mono ?_; rintro e w6 ⟨v6, rfl, hR6, hf6, hb6⟩) | go_in)
        have hs5 := HB5.out.size
        exact ⟨⟨i + 1, by omega, by go_num, FIN.out v6 w6 _ rfl hR6 (fun h0 k hk => by have := hf6 h0 k hk; omega) (HB5.out.trans (hb6.mono (by omega)))⟩, by simp [intOf]; omega⟩
      | rem n =>
        simp only [chV, List.getElem?_cons_zero, List.getElem?_cons_succ, Nat.add_zero] at k0 k1 k2
        have e := HUP.out
        have eL : setD (S.upto i) n (-1) = S.upto (i + 1) := by rw [e]; unfold setD; rw [if_pos (by omega)]; rfl
        have hX := HR.out.below ((Below.refl _ wr).alloc (Nat.le_refl _) (.cells #[.int .i64 n, .int .i64 (-1), .int .i64 (-1)] 87))
        have hbx := Blk.new wr #[.int .i64 n, .int .i64 (-1), .int .i64 (-1)] 87
        have b0 := hbx.cell 0
        have b1 := hbx.cell 1
        have b2 := hbx.cell 2
        simp only [List.getElem?_toArray, List.getElem?_cons_zero, List.getElem?_cons_succ] at b0 b1 b2
        have HS := Lib.hid (r_set hX (by omega) n (-1))
        rw [eL] at HS
        clear hX hbx e eL
        go_wp2_with (first | (go_at_call 58; refine HS.out.mono ?_; rintro e w5 ⟨v5, rfl, hR5, hf5, hb5⟩) | go_in)
        have hz : wr.heap.size ≤ (wr.alloc (.cells #[.int .i64 n, .int .i64 (-1), .int .i64 (-1)] 87)).heap.size := by simp
        have hs := HB.out.size
        exact ⟨⟨i + 1, by omega, by go_num, FIN.out v5 w5 _ rfl hR5 (fun h0 k hk => by have := hf5 h0 k hk; omega) ((HB.out.alloc HB.out.size _).trans (hb5.mono (by omega)))⟩, by simp [intOf]; omega⟩
    · have hil : i = many := by omega
      subst hil
      have d1 : decide ((i : Int) < (i : Int)) = false := decide_eq_false (by omega)
      have FIN := Lib.hid (show DirP w fp (S.upto i) (.returned (.slice al (S.upto i).length cl)) wr from ⟨_, rfl, hR, hf, hB⟩)
      clear hR hf hB
      go_wp2_with fail
      go_ret
      exact FIN.out
theorem upto_all (h : FInv S) : S.upto S.waits.length = S.now := by unfold FS.upto; rw [List.take_length]; exact h.eq.symm
theorem r_Dir (h : RRep w base fp br R S) (hI : DocI S) : Calls Try.prog 25 #[.pointer (some ⟨br, 0, none⟩)] w (DirP w fp S.now) := by
  have hD := r_dir h hI S.waits.length (Nat.le_refl _)
  rw [upto_all hI.inv] at hD
  have c3 : w.cell? ⟨br, 3, none⟩ = some R.vW := h.blk.cell 3
  obtain ⟨aw, cw, ew⟩ := own_shape h.parts.waits
  rw [ew] at c3
  clear h hI ew
  go_enter Try.func25, Try.ntmps25
  go_wp2_with (first | (go_at_call 49; refine hD.mono ?_; rintro e w5 ⟨v5, rfl, h1, h2, h3⟩) | go_in)
  go_ret
  exact ⟨v5, rfl, h1, h2, h3⟩
/-- A name's file, or none. -/
def findR (S : FS) (n : Int) : Int := match atD S.now n with | some f => f | none => -1
set_option maxHeartbeats 1600000 in
theorem r_find (h : RRep w base fp br R S) (hI : DocI S) (n : Int) : Calls Try.prog 55 #[.pointer (some ⟨br, 0, none⟩), .int .i64 n] w fun e w' => e = .returned (.int .i64 (findR S n)) ∧ Below w.heap.size w w' := by
  have hD := r_Dir h hI
  have hnl : S.now.length ≤ 1000 := by have := (upto_inv hI.inv S.waits.length).2.2; rw [upto_all hI.inv] at this; have := hI.wl; omega
  have hat : ∀ (i : Nat) (x : Int × Nat), S.now[i]? = some x → x.1 = n → findR S n = x.2 := fun i x hx e => by unfold findR; rw [← e, hI.inv.now.at_ (List.mem_of_getElem? hx)]
  have hno : (∀ (i : Nat) (x : Int × Nat), S.now[i]? = some x → x.1 ≠ n) → findR S n = -1 := fun hh => by
    unfold findR
    cases ha : atD S.now n with
    | none => rfl
    | some f =>
      obtain ⟨i, hi⟩ := List.mem_iff_getElem?.1 (atD_some ha)
      exact absurd rfl (hh i _ hi)
  have HAT := Lib.hid hat
  have HNO := Lib.hid hno
  generalize findR S n = r at *
  generalize S.now = l at *
  clear h hI hat hno
  go_enter Try.func55, Try.ntmps55
  go_wp2_with fail
  refine hD.mono ?_
  rintro e w5 ⟨v5, rfl, h1, h2, h3⟩
  obtain ⟨a5, c5, rfl, hc5, hc6, hcc⟩ := id h1
  have HB5 := Lib.hid h3
  clear h1 h2 h3 hD
  go_wp2_with fail
  go_loopw [6] (fun iv wr => ∃ i : Nat, i ≤ l.length ∧ iv = .int .i64 i ∧ wr = w5 ∧ ∀ (j : Nat) (x : Int × Nat), j < i → l[j]? = some x → x.1 ≠ n) (fun iv _ => l.length - (intOf iv).toNat)
  case atStart => exact ⟨0, by omega, rfl, rfl, fun j x hj => by omega⟩
  case round =>
    obtain ⟨i, hi, rfl, rfl, hall⟩ := hrel
    by_cases hlt : i < l.length
    · have d1 : decide ((i : Int) < (l.length : Int)) = true := decide_eq_true (by omega)
      obtain ⟨x, hx⟩ : ∃ x, l[i]? = some x := ⟨_, List.getElem?_eq_getElem hlt⟩
      obtain ⟨b, o, cs, rfl, -, hcell⟩ := hcc (by omega)
      obtain ⟨k0, k1⟩ := hcell i x hx
      have i0 : (0 : Int) ≤ (i : Int) := by omega
      have i1 : (i : Int) < (l.length : Int) := by omega
      have wi : IntKind.i64.wrap ((i : Int) + 1) = (i : Int) + 1 := IntWalk.i64_in _ (by omega)
      have HALL := Lib.hid hall
      by_cases he : x.1 = n
      · have e1 : (x.1 == n) = true := by simpa using he
        have hr := HAT.out i x hx he
        clear hall hx hcell hcc he HAT HNO
        subst hr
        go_wp2_with fail
        go_ret
        exact ⟨rfl, HB5.out⟩
      · have e1 : (x.1 == n) = false := by simpa using he
        have HX := Lib.hid hx
        clear hall hx hcell
        go_wp2_with fail
        go_roundw
        case rel =>
          refine ⟨i + 1, by omega, by go_num, by first | rfl | trivial, fun j y hj hy => ?_⟩
          rcases Nat.lt_or_ge j i with g | g
          · exact HALL.out j y g hy
          · have : j = i := by omega
            subst this
            rw [HX.out] at hy
            injection hy with hy
            subst hy
            exact he
        case measure => simp [intOf]; omega
    · have hil : i = l.length := by omega
      have d1 : decide ((i : Int) < (l.length : Int)) = false := decide_eq_false (by omega)
      have hr := HNO.out (fun j x hx => hall j x (by have := (List.getElem?_eq_some_iff.1 hx).1; omega) hx)
      clear hall hcc HAT HNO
      subst hr
      go_wp2_with fail
      go_ret
      exact ⟨rfl, HB5.out⟩
set_option maxHeartbeats 1600000 in
theorem r_used (h : RRep w base fp br R S) (hI : DocI S) (hU : S.used ≤ 300000000) : Calls Try.prog 26 #[.pointer (some ⟨br, 0, none⟩)] w fun e w' => e = .returned (.int .i64 S.used) ∧ Below w.heap.size w w' := by
  have hD := r_Dir h hI
  have hnl : S.now.length ≤ 1000 := by have := (upto_inv hI.inv S.waits.length).2.2; rw [upto_all hI.inv] at this; have := hI.wl; omega
  have HH := Lib.hid h
  have HI := Lib.hid hI
  have hul : usedD S.files S.now ≤ 300000000 := hU
  unfold FS.used
  clear h hI
  go_enter Try.func26, Try.ntmps26
  go_wp2_with fail
  refine hD.mono ?_
  rintro e w5 ⟨v5, rfl, h1, h2, h3⟩
  obtain ⟨a5, c5, rfl, hc5, hc6, hcc⟩ := id h1
  have HB5 := Lib.hid h3
  have hH5 := HH.out.below h3
  have HH5 := Lib.hid hH5
  clear h1 h2 h3 hD hH5
  go_wp2_with fail
  go_loopw [4, 5] (fun nv iv wr => ∃ i : Nat, i ≤ S.now.length ∧ iv = .int .i64 i ∧ nv = .int .i64 (usedD S.files (S.now.take i)) ∧ Below w5.heap.size w5 wr) (fun _ iv _ => S.now.length - (intOf iv).toNat)
  case atStart => exact ⟨0, by omega, rfl, rfl, Below.refl _ _⟩
  case round =>
    obtain ⟨i, hi, rfl, rfl, hB⟩ := hrel
    by_cases hlt : i < S.now.length
    · have d1 : decide ((i : Int) < (S.now.length : Int)) = true := decide_eq_true (by omega)
      obtain ⟨x, hx⟩ : ∃ x, S.now[i]? = some x := ⟨_, List.getElem?_eq_getElem hlt⟩
      obtain ⟨b, o, cs, rfl, hbk, hcell⟩ := hcc (by omega)
      have k1 : wr.cell? ⟨b, o + i * 2 + 1, none⟩ = some (.int .i64 x.2) := (hB.cell (p := ⟨b, _, none⟩) hbk.lt).trans (hcell i x hx).2
      have hHr := HH5.out.below hB
      have hf : x.2 < S.many := HI.out.inv.lt x (.inl (List.mem_of_getElem? hx))
      have c1 : wr.cell? ⟨br, 1, none⟩ = some R.vF := hHr.blk.cell 1
      obtain ⟨gF, cF, eF, hcF1, hcF2⟩ := own_open hHr.parts.fown (by omega)
      have hFo := hHr.parts.fown
      rw [eF] at c1 hFo
      have p1 := (World.ownsRow.cellAt hFo x.2 (by omega)).trans (ptrsF_get hf)
      have q0 : wr.cell? ⟨R.fb x.2, 0, none⟩ = some (R.fv x.2) := (hHr.parts.files.blk x.2 hf).cell 0
      obtain ⟨fa, fc, efv⟩ := own_shape (hHr.parts.files.own x.2 hf)
      rw [efv] at q0
      have hus := usedD_succ S.files hx
      have hut := usedD_take_le S.files S.now (i + 1)
      have HUS := Lib.hid hus
      have i0 : (0 : Int) ≤ (i : Int) := by omega
      have i1 : (i : Int) < (S.now.length : Int) := by omega
      have x0 : (0 : Int) ≤ (x.2 : Int) := by omega
      have x1 : (x.2 : Int) < (S.many : Int) := by omega
      have wi : IntKind.i64.wrap ((i : Int) + 1) = (i : Int) + 1 := IntWalk.i64_in _ (by omega)
      have HB := Lib.hid hB
      clear hB hbk hcell hHr hFo efv eF hx
      generalize hv1 : usedD S.files (S.now.take (i + 1)) = u1 at *
      generalize usedD S.files (S.now.take i) = u0 at *
      generalize (S.files x.2).b.length = xb at *
      have wu : IntKind.i64.wrap ((u0 : Int) + (xb : Int)) = (u1 : Int) := by rw [show (u0 : Int) + (xb : Int) = (u1 : Int) by omega]; exact IntWalk.i64_in _ (by omega)
      have HV1 := Lib.hid hv1
      clear hus hv1
      go_wp2_with fail
      refine start_ (n := 18) (S := fun w' => w'.cell? ⟨b, o + i * 2 + 1, none⟩ = some (.int .i64 x.2) ∧ w'.cell? ⟨br, 1, none⟩ = some (.slice (some ⟨gF, 0, none⟩) S.many cF) ∧ w'.cell? ⟨gF, x.2, none⟩ = some (.pointer (some ⟨R.fb x.2, 0, none⟩)) ∧ w'.cell? ⟨R.fb x.2, 0, none⟩ = some (.slice fa xb fc)) (ds := []) #[false, false, false, false, false, false, false, false, false, false, false, false, false, false, false, false, false, false] (by kernel_rfl) rfl rfl ⟨k1, c1, p1, q0⟩ (fun hHeld => ?_)
      refine pure_ (i := 0) (N := some 14) (v := ?_) (a' := ?_) #[true, false, false, false, false, false, false, false, false, false, false, false, false, false, false, false, false, false] rfl rfl (by kernel_rfl) (fun _ _ _ h => h) (Or.inl ⟨by rfl, ?_⟩) ?_ ?_
      rotate_left
      · intro w'
        go_simp
        with_reducible rfl
      rotate_left
      · simp only [Act.put, List.setIfInBounds_toArray, List.set_cons_zero, List.set_cons_succ, i64_w, i32_w]
        rfl
      refine pure_ (i := 1) (N := some 15) (v := ?_) (a' := ?_) #[true, true, false, false, false, false, false, false, false, false, false, false, false, false, false, false, false, false] rfl rfl (by kernel_rfl) (fun _ _ _ h => h) (Or.inl ⟨by rfl, ?_⟩) ?_ ?_
      rotate_left
      · intro w'
        go_simp
        with_reducible rfl
      rotate_left
      · simp only [Act.put, List.setIfInBounds_toArray, List.set_cons_zero, List.set_cons_succ, i64_w, i32_w]
        rfl
      refine pure_ (i := 2) (N := some 16) (v := ?_) (a' := ?_) #[true, true, true, false, false, false, false, false, false, false, false, false, false, false, false, false, false, false] rfl rfl (by kernel_rfl) (fun _ _ _ h => h) (Or.inl ⟨by rfl, ?_⟩) ?_ ?_
      rotate_left
      · intro w'
        go_simp
        with_reducible rfl
      rotate_left
      · simp only [Act.put, List.setIfInBounds_toArray, List.set_cons_zero, List.set_cons_succ, i64_w, i32_w]
        rfl
      refine pure_ (i := 3) (N := some 17) (v := ?_) (a' := ?_) #[true, true, true, true, false, false, false, false, false, false, false, false, false, false, false, false, false, false] rfl rfl (by kernel_rfl) (fun _ _ _ h => h) (Or.inl ⟨by rfl, ?_⟩) ?_ ?_
      rotate_left
      · intro w'
        go_simp
        with_reducible rfl
      rotate_left
      · simp only [Act.put, List.setIfInBounds_toArray, List.set_cons_zero, List.set_cons_succ, i64_w, i32_w]
        rfl
      refine pure_ (i := 5) (N := some 19) (v := ?_) (a' := ?_) #[true, true, true, true, false, true, false, false, false, false, false, false, false, false, false, false, false, false] rfl rfl (by kernel_rfl) (fun _ _ _ h => h) (Or.inl ⟨by rfl, ?_⟩) ?_ ?_
      rotate_left
      · intro w'
        go_simp
        with_reducible rfl
      rotate_left
      · simp only [Act.put, List.setIfInBounds_toArray, List.set_cons_zero, List.set_cons_succ, i64_w, i32_w]
        rfl
      refine pure_ (i := 6) (N := some 20) (v := ?_) (a' := ?_) #[true, true, true, true, false, true, true, false, false, false, false, false, false, false, false, false, false, false] rfl rfl (by kernel_rfl) (fun _ _ _ h => h) (Or.inl ⟨by rfl, ?_⟩) ?_ ?_
      rotate_left
      · intro w'
        go_simp
        with_reducible rfl
      rotate_left
      · simp only [Act.put, List.setIfInBounds_toArray, List.set_cons_zero, List.set_cons_succ, i64_w, i32_w]
        rfl
      refine pure_ (i := 7) (N := some 21) (v := ?_) (a' := ?_) #[true, true, true, true, false, true, true, true, false, false, false, false, false, false, false, false, false, false] rfl rfl (by kernel_rfl) (fun _ _ _ h => h) (Or.inl ⟨by rfl, ?_⟩) ?_ ?_
      rotate_left
      · intro w'
        go_simp
        with_reducible rfl
      rotate_left
      · simp only [Act.put, List.setIfInBounds_toArray, List.set_cons_zero, List.set_cons_succ, i64_w, i32_w]
        rfl
      refine pure_ (i := 8) (N := some 22) (v := ?_) (a' := ?_) #[true, true, true, true, false, true, true, true, true, false, false, false, false, false, false, false, false, false] rfl rfl (by kernel_rfl) (fun _ _ _ h => h) (Or.inl ⟨by rfl, ?_⟩) ?_ ?_
      rotate_left
      · intro w'
        go_simp
        with_reducible rfl
      rotate_left
      · simp only [Act.put, List.setIfInBounds_toArray, List.set_cons_zero, List.set_cons_succ, i64_w, i32_w]
        rfl
      refine take_ (i := 4) (N := some 18) (v := ?_) (a' := ?_) #[true, true, true, true, true, true, true, true, true, false, false, false, false, false, false, false, false, false] rfl rfl (by kernel_rfl) (fun _ _ _ h => h) (Or.inl ⟨by rfl, ?_⟩) hHeld ?_ ?_
      rotate_left
      · rintro w' ⟨s0, s1, s2, s3⟩
        go_simp
        with_reducible rfl
      rotate_left
      · simp only [Act.put, List.setIfInBounds_toArray, List.set_cons_zero, List.set_cons_succ, i64_w, i32_w]
        rfl
      refine take_ (i := 9) (N := some 23) (v := ?_) (a' := ?_) #[true, true, true, true, true, true, true, true, true, true, false, false, false, false, false, false, false, false] rfl rfl (by kernel_rfl) (fun _ _ _ h => h) (Or.inl ⟨by rfl, ?_⟩) hHeld ?_ ?_
      rotate_left
      · rintro w' ⟨s0, s1, s2, s3⟩
        go_simp
        with_reducible rfl
      rotate_left
      · simp only [Act.put, List.setIfInBounds_toArray, List.set_cons_zero, List.set_cons_succ, i64_w, i32_w]
        rfl
      refine pure_ (i := 10) (N := some 24) (v := ?_) (a' := ?_) #[true, true, true, true, true, true, true, true, true, true, true, false, false, false, false, false, false, false] rfl rfl (by kernel_rfl) (fun _ _ _ h => h) (Or.inl ⟨by rfl, ?_⟩) ?_ ?_
      rotate_left
      · intro w'
        go_simp
        with_reducible rfl
      rotate_left
      · simp only [Act.put, List.setIfInBounds_toArray, List.set_cons_zero, List.set_cons_succ, i64_w, i32_w]
        rfl
      refine take_ (i := 11) (N := some 25) (v := ?_) (a' := ?_) #[true, true, true, true, true, true, true, true, true, true, true, true, false, false, false, false, false, false] rfl rfl (by kernel_rfl) (fun _ _ _ h => h) (Or.inl ⟨by rfl, ?_⟩) hHeld ?_ ?_
      rotate_left
      · rintro w' ⟨s0, s1, s2, s3⟩
        go_simp
        with_reducible rfl
      rotate_left
      · simp only [Act.put, List.setIfInBounds_toArray, List.set_cons_zero, List.set_cons_succ, i64_w, i32_w]
        rfl
      refine pure_ (i := 12) (N := some 26) (v := ?_) (a' := ?_) #[true, true, true, true, true, true, true, true, true, true, true, true, true, false, false, false, false, false] rfl rfl (by kernel_rfl) (fun _ _ _ h => h) (Or.inl ⟨by rfl, ?_⟩) ?_ ?_
      rotate_left
      · intro w'
        go_simp
        with_reducible rfl
      rotate_left
      · simp only [Act.put, List.setIfInBounds_toArray, List.set_cons_zero, List.set_cons_succ, i64_w, i32_w]
        rfl
      refine pure_ (i := 13) (N := some 27) (v := ?_) (a' := ?_) #[true, true, true, true, true, true, true, true, true, true, true, true, true, true, false, false, false, false] rfl rfl (by kernel_rfl) (fun _ _ _ h => h) (Or.inl ⟨by rfl, ?_⟩) ?_ ?_
      rotate_left
      · intro w'
        go_simp
        with_reducible rfl
      rotate_left
      · simp only [Act.put, List.setIfInBounds_toArray, List.set_cons_zero, List.set_cons_succ, i64_w, i32_w]
        rfl
      refine take_ (i := 14) (N := some 28) (v := ?_) (a' := ?_) #[true, true, true, true, true, true, true, true, true, true, true, true, true, true, true, false, false, false] rfl rfl (by kernel_rfl) (fun _ _ _ h => h) (Or.inl ⟨by rfl, ?_⟩) hHeld ?_ ?_
      rotate_left
      · rintro w' ⟨s0, s1, s2, s3⟩
        go_simp
        with_reducible rfl
      rotate_left
      · simp only [Act.put, List.setIfInBounds_toArray, List.set_cons_zero, List.set_cons_succ, i64_w, i32_w]
        rfl
      refine pure_ (i := 15) (N := some 29) (v := ?_) (a' := ?_) #[true, true, true, true, true, true, true, true, true, true, true, true, true, true, true, true, false, false] rfl rfl (by kernel_rfl) (fun _ _ _ h => h) (Or.inl ⟨by rfl, ?_⟩) ?_ ?_
      rotate_left
      · intro w'
        go_simp
        with_reducible rfl
      rotate_left
      · simp only [Act.put, List.setIfInBounds_toArray, List.set_cons_zero, List.set_cons_succ, i64_w, i32_w]
        rfl
      refine pure_ (i := 16) (N := some 30) (v := ?_) (a' := ?_) #[true, true, true, true, true, true, true, true, true, true, true, true, true, true, true, true, true, false] rfl rfl (by kernel_rfl) (fun _ _ _ h => h) (Or.inl ⟨by rfl, ?_⟩) ?_ ?_
      rotate_left
      · intro w'
        go_simp
        with_reducible rfl
      rotate_left
      · simp only [Act.put, List.setIfInBounds_toArray, List.set_cons_zero, List.set_cons_succ, i64_w, i32_w]
        rfl
      refine pure_ (i := 17) (N := some 4) (v := ?_) (a' := ?_) #[true, true, true, true, true, true, true, true, true, true, true, true, true, true, true, true, true, true] rfl rfl (by kernel_rfl) (fun _ _ _ h => h) (Or.inl ⟨by rfl, ?_⟩) ?_ ?_
      rotate_left
      · intro w'
        go_simp
        with_reducible rfl
      rotate_left
      · simp only [Act.put, List.setIfInBounds_toArray, List.set_cons_zero, List.set_cons_succ, i64_w, i32_w]
        rfl
      try clear hHeld
      refine done_ (by kernel_rfl) ?_
      go_wp2_with fail
      go_roundw
      case rel => exact ⟨i + 1, by omega, by go_num, by rw [HV1.out], HB.out.drew⟩
      case measure => simp [intOf]; omega
    · have hil : i = S.now.length := by omega
      have htk : S.now.take i = S.now := List.take_of_length_le (by omega)
      rw [htk]
      have d1 : decide ((i : Int) < (S.now.length : Int)) = false := decide_eq_false (by omega)
      have HB := Lib.hid hB
      clear hB hcc htk
      go_wp2_with fail
      go_ret
      exact ⟨rfl, HB5.out.trans (HB.out.mono HB5.out.size)⟩
end
end Go.Proofs.Ytpckjinlopmbcaa
