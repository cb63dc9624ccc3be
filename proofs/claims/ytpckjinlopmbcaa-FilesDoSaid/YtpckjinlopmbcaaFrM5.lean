/-
  The document's disk: Crash.
-/
import Derived.Test.YtpckjinlopmbcaaFrM4
namespace Go.Proofs.Ytpckjinlopmbcaa
set_option linter.unusedVariables false
set_option maxRecDepth 100000
set_option linter.unusedSimpArgs false
open Go.RowKit Go.Maps
open Go.Proofs.YtpckjinlopmbcaaW.PrintLast
section
variable {w w5 W : World} {fp fp' : Nat → Prop} {R R' : RRef} {S : FS} {base br m : Nat}
/-- One file cut. -/
theorem RRep.trim (h : RRep w base fp br R S) (hw : base ≤ w.heap.size) {f n : Nat} (hf : f < S.many) (hn : n ≤ (S.files f).b.length) {fa : Option Addr} {fc : Nat} (efv : R.fv f = .slice fa (S.files f).b.length fc) :
    RRep ((w.setCell ⟨R.fb f, 0, none⟩ (.slice fa n fc)).setCell ⟨R.fb f, 1, none⟩ (.int .i64 n)) base fp br { R with fv := updV R.fv f (.slice fa n fc) } (S.setF f ⟨(S.files f).b.take n, n⟩) := by
  have P := h.parts
  have hB := P.files.blk f hf
  have hO := P.files.own f hf
  rw [efv] at hO
  have k : Keeps (fun q => q = R.fb f) w ((w.setCell ⟨R.fb f, 0, none⟩ (.slice fa n fc)).setCell ⟨R.fb f, 1, none⟩ (.int .i64 n)) := (((Keeps.refl (fun q => q = R.fb f) w).set _ 0 (.inl rfl) _).set _ 1 (.inl rfl) _)
  have hl : ((S.files f).b.take n).length = n := by rw [List.length_take]; omega
  have ht := own_take hO hn
  rw [byt_take] at ht
  have hb1 := hB.set 0 (.slice fa n fc)
  have := h.setF hw hf k (fun q e => .inl e) (.slice fa n fc) ⟨(S.files f).b.take n, n⟩ (by simpa using hb1.set 1 (.int .i64 n)) (by rw [hl]; exact own_set (own_set ht hB (by decide) 0 _) hb1 (by decide) 1 _) (fun q hq => .inl (by rw [efv]; cases fa <;> simp [Value.ownBlock] at hq ⊢; exact hq))
  rw [fpAll_same (by simp)] at this
  exact this
theorem r_crash_round {w8 X : World} {names : Int} {keep : List Int} {i : Nat} {fv : Nat → Value} (D : RRep X base fp br { R with fv := fv } (S.cutTo names keep i)) (hI : FInv S) (hw : base ≤ X.heap.size) {x : Int × Nat} (hx : (S.back names)[i]? = some x) {fa : Option Addr} {fc : Nat} (efv : fv x.2 = .slice fa ((S.cutTo names keep i).files x.2).b.length fc) (hle : ((S.cutTo names keep i).files x.2).kept ≤ ((S.cutTo names keep i).files x.2).b.length) (k8 : Keeps fp w8 X) {q : Nat} (hq : q = keepN keep i ((S.cutTo names keep i).files x.2)) :
    (∃ fv', RRep ((X.setCell ⟨R.fb x.2, 0, none⟩ (.slice fa q fc)).setCell ⟨R.fb x.2, 1, none⟩ (.int .i64 q)) base fp br { R with fv := fv' } (S.cutTo names keep (i + 1))) ∧ Keeps fp w8 ((X.setCell ⟨R.fb x.2, 0, none⟩ (.slice fa q fc)).setCell ⟨R.fb x.2, 1, none⟩ (.int .i64 q)) := by
  have hf : x.2 < (S.cutTo names keep i).many := (upto_inv hI (pickN names S.waits.length)).2.1 x (List.mem_of_getElem? hx)
  have hfp : fp (R.fb x.2) := D.parts.files.fpb _ hf
  refine ⟨⟨updV fv x.2 (.slice fa q fc), ?_⟩, (k8.set _ 0 (.inl hfp) _).set _ 1 (.inl hfp) _⟩
  rw [cutTo_succ S names keep hx, trimF_eq, ← hq]
  exact D.trim hw hf (by rw [hq]; exact keepN_le _ _ _ hle) efv
theorem cutTo_le {S : FS} (hI : FInv S) (names : Int) (keep : List Int) (i f : Nat) : ((S.cutTo names keep i).files f).kept ≤ ((S.cutTo names keep i).files f).b.length := by
  show (trimAll keep (S.back names) S.files i f).kept ≤ (trimAll keep (S.back names) S.files i f).b.length
  induction i with
  | zero => exact hI.le f
  | succ i ih =>
    simp only [trimAll]
    cases hx : (S.back names)[i]? with
    | none => exact ih
    | some x =>
      show (updF (trimAll keep (S.back names) S.files i) x.2 (trimF keep i (trimAll keep (S.back names) S.files i x.2)) f).kept ≤ (updF (trimAll keep (S.back names) S.files i) x.2 (trimF keep i (trimAll keep (S.back names) S.files i x.2)) f).b.length
      by_cases e : f = x.2
      · subst e
        rw [updF_same, trimF_eq]
        have := keepN_le keep i _ ih
        show keepN keep i _ ≤ (List.take _ _).length
        rw [List.length_take]
        omega
      · rw [updF_ne _ _ e]; exact ih
set_option maxHeartbeats 3200000 in
theorem r_crash (h : RRep w base fp br R S) (hI : DocI S) (hs : Small S m) (hw0 : base ≤ w.heap.size) {names : Int} {v : Value} {keep : List Int} (hv : Rd w v keep) (hkl : keep.length ≤ 300) (hd : 0 < keep.length → ∀ k, v.ownBlock = some k → ¬ fp k) :
    Calls Try.prog 48 #[.pointer (some ⟨br, 0, none⟩), .int .i64 names, v] w (RPost w base fp br (S.crash names keep) (.tuple #[])) := by
  have hwl := hI.wl
  have c3 : w.cell? ⟨br, 3, none⟩ = some R.vW := h.blk.cell 3
  obtain ⟨aw, cw, ew⟩ := own_shape h.parts.waits
  obtain ⟨ak, ck, ek, -⟩ := id h.parts.kept
  rw [ew] at c3
  obtain ⟨va, vc, rfl⟩ : ∃ a c, v = .slice a keep.length c := by obtain ⟨a, c, e, _⟩ := id hv; exact ⟨a, c, e⟩
  have hP : ∀ W, Calls Try.prog 57 #[.int .i64 names, .int .i64 S.waits.length] W fun e w' => e = .returned (.int .i64 (pickN names S.waits.length)) ∧ W = w' := fun W => (r_pick W names S.waits.length (by omega)).mono (fun e w' h => ⟨h.1, h.2.symm⟩)
  have HD := Lib.hid (r_dir h hI (pickN names S.waits.length) (pickN_le _ _))
  rw [← back_upto] at HD
  obtain ⟨p, hpe⟩ : ∃ p, p = pickN names S.waits.length := ⟨_, rfl⟩
  rw [← hpe] at hP HD
  have hbi := upto_inv hI.inv p
  have hbl : (S.back names).length ≤ 1000 := by rw [back_upto, ← hpe]; have := pickN_le names S.waits.length; omega
  have hblt : ∀ x ∈ S.back names, x.2 < S.many := by rw [back_upto, ← hpe]; exact hbi.2.1
  have HBLT := Lib.hid hblt
  have hml := hI.ml
  -- behind the four stores
  have MID := Lib.hid (show ∀ v5 w5, RdN w5 v5 (S.back names) → (0 < (S.back names).length → ∀ k, v5.ownBlock = some k → fp k ∨ w.heap.size ≤ k) → Below w.heap.size w w5 →
      (w5.cell? ⟨br, 2, none⟩ = some R.vK ∧ w5.cell? ⟨br, 3, none⟩ = some R.vW ∧ w5.cell? ⟨br, 4, none⟩ = some (.bool S.out) ∧ w5.cell? ⟨br, 5, none⟩ = some (.bool S.armed)) ∧ (w5.frozen? ⟨br, 2, none⟩ = false ∧ w5.frozen? ⟨br, 3, none⟩ = false ∧ w5.frozen? ⟨br, 4, none⟩ = false ∧ w5.frozen? ⟨br, 5, none⟩ = false) ∧
      ∃ fp1, RRep ((((w5.setCell ⟨br, 2, none⟩ v5).setCell ⟨br, 3, none⟩ (.slice none 0 0)).setCell ⟨br, 4, none⟩ (.bool false)).setCell ⟨br, 5, none⟩ (.bool false)) base fp1 br { R with vK := v5, vW := .slice none 0 0 } (S.back0 names) ∧ (∀ k, k < w.heap.size → (fp1 k ↔ fp k)) ∧ Keeps fp w ((((w5.setCell ⟨br, 2, none⟩ v5).setCell ⟨br, 3, none⟩ (.slice none 0 0)).setCell ⟨br, 4, none⟩ (.bool false)).setCell ⟨br, 5, none⟩ (.bool false)) from fun v5 w5 h1 h2 h3 => by
    have h5 := h.below h3
    have k : Keeps (fun q => q = br) w5 ((((w5.setCell ⟨br, 2, none⟩ v5).setCell ⟨br, 3, none⟩ (.slice none 0 0)).setCell ⟨br, 4, none⟩ (.bool false)).setCell ⟨br, 5, none⟩ (.bool false)) := ((((Keeps.refl (fun q => q = br) w5).set br 2 (.inl rfl) _).set br 3 (.inl rfl) _).set br 4 (.inl rfl) _).set br 5 (.inl rfl) _
    have hB := (((h5.blk.set 2 v5).set 3 (.slice none 0 0)).set 4 (.bool false)).set 5 (.bool false)
    have hN := h.names (S' := S.back0 names) hw0 h3 k rfl rfl rfl (by simpa [rdV, FS.back0] using hB) h1 h2
    exact ⟨⟨h5.blk.cell 2, h5.blk.cell 3, h5.blk.cell 4, h5.blk.cell 5⟩, ⟨h5.blk.frozen 2, h5.blk.frozen 3, h5.blk.frozen 4, h5.blk.frozen 5⟩, _, hN, fun k hk => fpAll_iff hk, (Keeps.ofBelow h3).trans' (k.mono (fun q e => by rw [e]; exact h.fpd))⟩)
  rw [ew, ek] at MID
  have HI := Lib.hid hI
  have HS := Lib.hid hs
  have HV := Lib.hid hv
  have HDD := Lib.hid hd
  clear h hI hs hv hd hpe hbi hblt
  go_enter Try.func48, Try.ntmps48
  go_wp2_with (first
    | (go_at_call 57; refine (hP _).mono ?_; rintro e w4 ⟨rfl, rfl⟩)
    | (go_at_call 49; refine HD.out.mono ?_; rintro e w5 ⟨v5, rfl, h1, h2, h3⟩; obtain ⟨a5, c5, e5, hc5, hc6, hcc⟩ := id h1; subst e5; obtain ⟨⟨g2, g3, g4, g5⟩, ⟨z2, z3, z4, z5⟩, fp1, h8, hi8, k8⟩ := MID.out _ w5 h1 h2 h3; have HC := Lib.hid hcc; have H8 := Lib.hid h8; have HI8 := Lib.hid hi8; have HK8 := Lib.hid k8; clear h1 h2 h3 h8 hi8 k8 hcc)
    | go_in)
  clear g2 g3 g4 g5 z2 z3 z4 z5 MID HD hP c3
  have hRd : RdN ((((w5.setCell ⟨br, 2, none⟩ (.slice a5 (S.back names).length c5)).setCell ⟨br, 3, none⟩ (.slice none 0 0)).setCell ⟨br, 4, none⟩ (.bool false)).setCell ⟨br, 5, none⟩ (.bool false)) (.slice a5 (S.back names).length c5) (S.back names) := H8.out.parts.kept
  have HFK := Lib.hid H8.out.parts.fpK
  generalize ((((w5.setCell ⟨br, 2, none⟩ (.slice a5 (S.back names).length c5)).setCell ⟨br, 3, none⟩ (.slice none 0 0)).setCell ⟨br, 4, none⟩ (.bool false)).setCell ⟨br, 5, none⟩ (.bool false)) = W at *
  have hbz := HK8.out.size
  clear hRd HFK
  go_loopw [6] (fun iv wr => ∃ i : Nat, i ≤ (S.back names).length ∧ iv = .int .i64 i ∧ (∃ fv, RRep wr base fp1 br { fb := R.fb, fv := fv, vF := R.vF, vK := .slice a5 (S.back names).length c5, vW := .slice none 0 0 } (S.cutTo names keep i)) ∧ Keeps fp1 W wr) (fun iv _ => (S.back names).length - (intOf iv).toNat)
  case atStart => exact ⟨0, by omega, rfl, ⟨R.fv, H8.out⟩, Keeps.refl _ _⟩
  case round =>
    obtain ⟨i, hi, rfl, ⟨fv, hD⟩, kW⟩ := hrel
    have c2 : wr.cell? ⟨br, 2, none⟩ = some (.slice a5 (S.back names).length c5) := hD.blk.cell 2
    by_cases hlt : i < (S.back names).length
    · have d1 : decide ((i : Int) < ((S.back names).length : Int)) = true := decide_eq_true (by omega)
      obtain ⟨x, hx⟩ : ∃ x, (S.back names)[i]? = some x := ⟨_, List.getElem?_eq_getElem hlt⟩
      have hf : x.2 < S.many := HBLT.out x (List.mem_of_getElem? hx)
      obtain ⟨ak2, ck2, ek3, -, -, hcK⟩ := id hD.parts.kept
      obtain ⟨nb, no, ncs, e5, -, hncell⟩ := hcK (show 0 < (S.back names).length by omega)
      have ek2 : Value.slice a5 (S.back names).length c5 = .slice ak2 (S.back names).length ck2 := ek3
      clear ek3
      simp only [Value.slice.injEq, true_and] at ek2
      obtain ⟨rfl, rfl⟩ := ek2
      subst e5
      have kn : wr.cell? ⟨nb, no + i * 2 + 1, none⟩ = some (.int .i64 x.2) := (hncell i x hx).2
      have c1 : wr.cell? ⟨br, 1, none⟩ = some R.vF := hD.blk.cell 1
      have hFo := hD.parts.fown
      have hFo : Own wr 82 1 R.vF S.many (ptrsF R.fb S.many) := hFo
      obtain ⟨gF, cF, eF, hcF1, hcF2⟩ := own_open hFo (by omega)
      rw [eF] at c1 hFo
      have p1 := (World.ownsRow.cellAt hFo x.2 (by omega)).trans (ptrsF_get hf)
      have hB := hD.parts.files.blk x.2 hf
      have hOf := hD.parts.files.own x.2 hf
      obtain ⟨fa, fc, efv, hfc1, hfc2⟩ := own_shape2 hOf
      have efv : fv x.2 = .slice fa ((S.cutTo names keep i).files x.2).b.length fc := efv
      have a0 : wr.cell? ⟨R.fb x.2, 0, none⟩ = some (fv x.2) := hB.cell 0
      have a1 : wr.cell? ⟨R.fb x.2, 1, none⟩ = some (.int .i64 ((S.cutTo names keep i).files x.2).kept) := hB.cell 1
      rw [efv] at a0
      have z0 : wr.frozen? ⟨R.fb x.2, 0, none⟩ = false := hB.frozen 0
      have z1 : wr.frozen? ⟨R.fb x.2, 1, none⟩ = false := hB.frozen 1
      have hle := cutTo_le HI.out.inv names keep i x.2
      obtain ⟨q, hq⟩ : ∃ q, q = keepN keep i ((S.cutTo names keep i).files x.2) := ⟨_, rfl⟩
      have hql : q ≤ ((S.cutTo names keep i).files x.2).b.length := by rw [hq]; exact keepN_le _ _ _ hle
      have hblen : ((S.cutTo names keep i).files x.2).b.length ≤ 300 * m := (HS.out.cutTo HI.out.inv names keep i).len x.2
      have htop := HS.out.top
      have hwz := kW.size
      have CR := Lib.hid (fun X (k : Keeps (fun _ => False) wr X) => r_crash_round (R := { fb := R.fb, fv := fv, vF := R.vF, vK := .slice (some ⟨nb, no, none⟩) (S.back names).length c5, vW := .slice none 0 0 }) (hD.keeps k (fun _ _ h => h)) HI.out.inv (by have := k.size; omega) hx efv hle (kW.trans' (k.mono (fun _ h => h.elim))) hq)
      have HBX := Lib.hid (show Blk wr (R.fb x.2) #[.slice fa ((S.cutTo names keep i).files x.2).b.length fc, .int .i64 ((S.cutTo names keep i).files x.2).kept] 81 from by rw [← efv]; exact hB)
      have HHQ := Lib.hid hq
      have HKW := Lib.hid kW
      have hqn : ¬ keep = [] → q = ((S.cutTo names keep i).files x.2).kept + pickN (keep.getD (i % keep.length) 0) (((S.cutTo names keep i).files x.2).b.length - ((S.cutTo names keep i).files x.2).kept) := fun h => by rw [HHQ.out]; unfold keepN; rw [if_neg h]
      have hq0 : keep = [] → q = ((S.cutTo names keep i).files x.2).kept := fun h => by rw [HHQ.out]; unfold keepN; rw [if_pos h]; rfl
      clear hD kW hB hOf efv hq hx hncell hcK hFo eF
      generalize ((S.cutTo names keep i).files x.2).b.length = bl at *
      generalize ((S.cutTo names keep i).files x.2).kept = kp at *
      unfold maxLen at hfc2
      have i0 : (0 : Int) ≤ (i : Int) := by omega
      have i1 : (i : Int) < ((S.back names).length : Int) := by omega
      have x0 : (0 : Int) ≤ (x.2 : Int) := by omega
      have x1 : (x.2 : Int) < (S.many : Int) := by omega
      have wi : IntKind.i64.wrap ((i : Int) + 1) = (i : Int) + 1 := IntWalk.i64_in _ (by omega)
      have q0 : (0 : Int) ≤ (q : Int) := by omega
      have q1 : (q : Int) ≤ (fc : Int) := by omega
      go_wp2_with fail
      refine start_ (n := 15) (S := fun w' => w'.cell? ⟨br, 1, none⟩ = some (.slice (some ⟨gF, 0, none⟩) S.many cF) ∧ w'.cell? ⟨br, 2, none⟩ = some (.slice (some ⟨nb, no, none⟩) (S.back names).length c5) ∧ w'.cell? ⟨nb, no + i * 2 + 1, none⟩ = some (.int .i64 x.2) ∧ w'.cell? ⟨gF, x.2, none⟩ = some (.pointer (some ⟨R.fb x.2, 0, none⟩))) (ds := []) #[false, false, false, false, false, false, false, false, false, false, false, false, false, false, false] (by kernel_rfl) rfl rfl ⟨c1, c2, kn, p1⟩ (fun hHeld => ?_)
      refine pure_ (i := 0) (N := some 39) (v := ?_) (a' := ?_) #[true, false, false, false, false, false, false, false, false, false, false, false, false, false, false] rfl rfl (by kernel_rfl) (fun _ _ _ h => h) (Or.inl ⟨by rfl, ?_⟩) ?_ ?_
      rotate_left
      · intro w'
        go_simp
        with_reducible rfl
      rotate_left
      · simp only [Act.put, List.setIfInBounds_toArray, List.set_cons_zero, List.set_cons_succ, i64_w, i32_w]
        rfl
      refine pure_ (i := 1) (N := some 40) (v := ?_) (a' := ?_) #[true, true, false, false, false, false, false, false, false, false, false, false, false, false, false] rfl rfl (by kernel_rfl) (fun _ _ _ h => h) (Or.inl ⟨by rfl, ?_⟩) ?_ ?_
      rotate_left
      · intro w'
        go_simp
        with_reducible rfl
      rotate_left
      · simp only [Act.put, List.setIfInBounds_toArray, List.set_cons_zero, List.set_cons_succ, i64_w, i32_w]
        rfl
      refine pure_ (i := 2) (N := some 41) (v := ?_) (a' := ?_) #[true, true, true, false, false, false, false, false, false, false, false, false, false, false, false] rfl rfl (by kernel_rfl) (fun _ _ _ h => h) (Or.inl ⟨by rfl, ?_⟩) ?_ ?_
      rotate_left
      · intro w'
        go_simp
        with_reducible rfl
      rotate_left
      · simp only [Act.put, List.setIfInBounds_toArray, List.set_cons_zero, List.set_cons_succ, i64_w, i32_w]
        rfl
      refine pure_ (i := 4) (N := some 43) (v := ?_) (a' := ?_) #[true, true, true, false, true, false, false, false, false, false, false, false, false, false, false] rfl rfl (by kernel_rfl) (fun _ _ _ h => h) (Or.inl ⟨by rfl, ?_⟩) ?_ ?_
      rotate_left
      · intro w'
        go_simp
        with_reducible rfl
      rotate_left
      · simp only [Act.put, List.setIfInBounds_toArray, List.set_cons_zero, List.set_cons_succ, i64_w, i32_w]
        rfl
      refine pure_ (i := 5) (N := some 44) (v := ?_) (a' := ?_) #[true, true, true, false, true, true, false, false, false, false, false, false, false, false, false] rfl rfl (by kernel_rfl) (fun _ _ _ h => h) (Or.inl ⟨by rfl, ?_⟩) ?_ ?_
      rotate_left
      · intro w'
        go_simp
        with_reducible rfl
      rotate_left
      · simp only [Act.put, List.setIfInBounds_toArray, List.set_cons_zero, List.set_cons_succ, i64_w, i32_w]
        rfl
      refine pure_ (i := 6) (N := some 45) (v := ?_) (a' := ?_) #[true, true, true, false, true, true, true, false, false, false, false, false, false, false, false] rfl rfl (by kernel_rfl) (fun _ _ _ h => h) (Or.inl ⟨by rfl, ?_⟩) ?_ ?_
      rotate_left
      · intro w'
        go_simp
        with_reducible rfl
      rotate_left
      · simp only [Act.put, List.setIfInBounds_toArray, List.set_cons_zero, List.set_cons_succ, i64_w, i32_w]
        rfl
      refine pure_ (i := 8) (N := some 47) (v := ?_) (a' := ?_) #[true, true, true, false, true, true, true, false, true, false, false, false, false, false, false] rfl rfl (by kernel_rfl) (fun _ _ _ h => h) (Or.inl ⟨by rfl, ?_⟩) ?_ ?_
      rotate_left
      · intro w'
        go_simp
        with_reducible rfl
      rotate_left
      · simp only [Act.put, List.setIfInBounds_toArray, List.set_cons_zero, List.set_cons_succ, i64_w, i32_w]
        rfl
      refine take_ (i := 3) (N := some 42) (v := ?_) (a' := ?_) #[true, true, true, true, true, true, true, false, true, false, false, false, false, false, false] rfl rfl (by kernel_rfl) (fun _ _ _ h => h) (Or.inl ⟨by rfl, ?_⟩) hHeld ?_ ?_
      rotate_left
      · rintro w' ⟨s0, s1, s2, s3⟩
        go_simp
        with_reducible rfl
      rotate_left
      · simp only [Act.put, List.setIfInBounds_toArray, List.set_cons_zero, List.set_cons_succ, i64_w, i32_w]
        rfl
      refine take_ (i := 7) (N := some 46) (v := ?_) (a' := ?_) #[true, true, true, true, true, true, true, true, true, false, false, false, false, false, false] rfl rfl (by kernel_rfl) (fun _ _ _ h => h) (Or.inl ⟨by rfl, ?_⟩) hHeld ?_ ?_
      rotate_left
      · rintro w' ⟨s0, s1, s2, s3⟩
        go_simp
        with_reducible rfl
      rotate_left
      · simp only [Act.put, List.setIfInBounds_toArray, List.set_cons_zero, List.set_cons_succ, i64_w, i32_w]
        rfl
      refine pure_ (i := 9) (N := some 48) (v := ?_) (a' := ?_) #[true, true, true, true, true, true, true, true, true, true, false, false, false, false, false] rfl rfl (by kernel_rfl) (fun _ _ _ h => h) (Or.inl ⟨by rfl, ?_⟩) ?_ ?_
      rotate_left
      · intro w'
        go_simp
        with_reducible rfl
      rotate_left
      · simp only [Act.put, List.setIfInBounds_toArray, List.set_cons_zero, List.set_cons_succ, i64_w, i32_w]
        rfl
      refine pure_ (i := 10) (N := some 49) (v := ?_) (a' := ?_) #[true, true, true, true, true, true, true, true, true, true, true, false, false, false, false] rfl rfl (by kernel_rfl) (fun _ _ _ h => h) (Or.inl ⟨by rfl, ?_⟩) ?_ ?_
      rotate_left
      · intro w'
        go_simp
        with_reducible rfl
      rotate_left
      · simp only [Act.put, List.setIfInBounds_toArray, List.set_cons_zero, List.set_cons_succ, i64_w, i32_w]
        rfl
      refine take_ (i := 11) (N := some 50) (v := ?_) (a' := ?_) #[true, true, true, true, true, true, true, true, true, true, true, true, false, false, false] rfl rfl (by kernel_rfl) (fun _ _ _ h => h) (Or.inl ⟨by rfl, ?_⟩) hHeld ?_ ?_
      rotate_left
      · rintro w' ⟨s0, s1, s2, s3⟩
        go_simp
        with_reducible rfl
      rotate_left
      · simp only [Act.put, List.setIfInBounds_toArray, List.set_cons_zero, List.set_cons_succ, i64_w, i32_w]
        rfl
      refine pure_ (i := 12) (N := some 51) (v := ?_) (a' := ?_) #[true, true, true, true, true, true, true, true, true, true, true, true, true, false, false] rfl rfl (by kernel_rfl) (fun _ _ _ h => h) (Or.inl ⟨by rfl, ?_⟩) ?_ ?_
      rotate_left
      · intro w'
        go_simp
        with_reducible rfl
      rotate_left
      · simp only [Act.put, List.setIfInBounds_toArray, List.set_cons_zero, List.set_cons_succ, i64_w, i32_w]
        rfl
      refine take_ (i := 13) (N := some 52) (v := ?_) (a' := ?_) #[true, true, true, true, true, true, true, true, true, true, true, true, true, true, false] rfl rfl (by kernel_rfl) (fun _ _ _ h => h) (Or.inl ⟨by rfl, ?_⟩) hHeld ?_ ?_
      rotate_left
      · rintro w' ⟨s0, s1, s2, s3⟩
        go_simp
        with_reducible rfl
      rotate_left
      · simp only [Act.put, List.setIfInBounds_toArray, List.set_cons_zero, List.set_cons_succ, i64_w, i32_w]
        rfl
      refine pure_ (i := 14) (N := some 7) (v := ?_) (a' := ?_) #[true, true, true, true, true, true, true, true, true, true, true, true, true, true, true] rfl rfl (by kernel_rfl) (fun _ _ _ h => h) (Or.inl ⟨by rfl, ?_⟩) ?_ ?_
      rotate_left
      · intro w'
        go_simp
        with_reducible rfl
      rotate_left
      · simp only [Act.put, List.setIfInBounds_toArray, List.set_cons_zero, List.set_cons_succ, i64_w, i32_w]
        rfl
      try clear hHeld
      refine done_ (by kernel_rfl) ?_
      have a0d : wr.drew.cell? ⟨R.fb x.2, 0, none⟩ = some (.slice fa bl fc) := a0
      have a1d : wr.drew.cell? ⟨R.fb x.2, 1, none⟩ = some (.int .i64 kp) := a1
      have z0d : wr.drew.frozen? ⟨R.fb x.2, 0, none⟩ = false := z0
      have z1d : wr.drew.frozen? ⟨R.fb x.2, 1, none⟩ = false := z1
      have CRd := Lib.hid (fun Y (k : Keeps (fun _ => False) wr.drew Y) => CR.out Y ((Keeps.refl _ wr).drew.trans' k))
      have HBd := Lib.hid HBX.out.drew
      clear a0 a1 z0 z1 CR HBX
      clear c1 c2 kn p1
      have HKX := Lib.hid (show Keeps fp1 W wr.drew from HKW.out.drew)
      generalize wr.drew = X at *
      have a0 := a0d
      have a1 := a1d
      have z0 := z0d
      have z1 := z1d
      have CR := CRd
      have HBX := HBd
      clear a0d a1d z0d z1d CRd HBd
      by_cases hk0 : keep = []
      · have d2 : decide ((0 : Int) < (keep.length : Int)) = false := decide_eq_false (by rw [hk0]; simp)
        have d3 : decide (0 < keep.length) = false := decide_eq_false (by rw [hk0]; simp)
        have hqk := hq0 hk0
        have w0 : IntKind.i64.wrap (kp : Int) = (q : Int) := by rw [hqk]; exact IntWalk.i64_in _ (by omega)
        have w1 : IntKind.i64.wrap ((kp : Int) + 0) = (q : Int) := by rw [Int.add_zero]; exact w0
        clear hqk hqn hq0 hk0
        go_wp2_with fail
        have z0e : X.drew.frozen? ⟨R.fb x.2, 0, none⟩ = false := z0
        have z1e : X.drew.frozen? ⟨R.fb x.2, 1, none⟩ = false := z1
        have a0e : X.drew.cell? ⟨R.fb x.2, 0, none⟩ = some (.slice fa bl fc) := a0
        have a1e : X.drew.cell? ⟨R.fb x.2, 1, none⟩ = some (.int .i64 kp) := a1
        refine start_ (n := 15) (S := fun w' => w'.cell? ⟨R.fb x.2, 0, none⟩ = some (.slice fa bl fc) ∧ w'.cell? ⟨R.fb x.2, 1, none⟩ = some (.int .i64 kp)) (ds := [14]) #[false, false, false, false, false, false, false, false, false, false, false, false, false, false, false] (by kernel_rfl) rfl rfl ⟨a0, a1⟩ (fun hHeld => ?_)
        refine pure_ (i := 0) (N := some 74) (v := ?_) (a' := ?_) #[true, false, false, false, false, false, false, false, false, false, false, false, false, false, false] rfl rfl (by kernel_rfl) (fun _ _ _ h => h) (Or.inl ⟨by rfl, ?_⟩) ?_ ?_
        rotate_left
        · intro w'
          go_simp
          with_reducible rfl
        rotate_left
        · simp only [Act.put, List.setIfInBounds_toArray, List.set_cons_zero, List.set_cons_succ, i64_w, i32_w]
          rfl
        refine pure_ (i := 1) (N := some 75) (v := ?_) (a' := ?_) #[true, true, false, false, false, false, false, false, false, false, false, false, false, false, false] rfl rfl (by kernel_rfl) (fun _ _ _ h => h) (Or.inl ⟨by rfl, ?_⟩) ?_ ?_
        rotate_left
        · intro w'
          go_simp
          with_reducible rfl
        rotate_left
        · simp only [Act.put, List.setIfInBounds_toArray, List.set_cons_zero, List.set_cons_succ, i64_w, i32_w]
          rfl
        refine pure_ (i := 2) (N := some 76) (v := ?_) (a' := ?_) #[true, true, true, false, false, false, false, false, false, false, false, false, false, false, false] rfl rfl (by kernel_rfl) (fun _ _ _ h => h) (Or.inl ⟨by rfl, ?_⟩) ?_ ?_
        rotate_left
        · intro w'
          go_simp
          with_reducible rfl
        rotate_left
        · simp only [Act.put, List.setIfInBounds_toArray, List.set_cons_zero, List.set_cons_succ, i64_w, i32_w]
          rfl
        refine pure_ (i := 3) (N := some 77) (v := ?_) (a' := ?_) #[true, true, true, true, false, false, false, false, false, false, false, false, false, false, false] rfl rfl (by kernel_rfl) (fun _ _ _ h => h) (Or.inl ⟨by rfl, ?_⟩) ?_ ?_
        rotate_left
        · intro w'
          go_simp
          with_reducible rfl
        rotate_left
        · simp only [Act.put, List.setIfInBounds_toArray, List.set_cons_zero, List.set_cons_succ, i64_w, i32_w]
          rfl
        refine pure_ (i := 5) (N := some 79) (v := ?_) (a' := ?_) #[true, true, true, true, false, true, false, false, false, false, false, false, false, false, false] rfl rfl (by kernel_rfl) (fun _ _ _ h => h) (Or.inl ⟨by rfl, ?_⟩) ?_ ?_
        rotate_left
        · intro w'
          go_simp
          with_reducible rfl
        rotate_left
        · simp only [Act.put, List.setIfInBounds_toArray, List.set_cons_zero, List.set_cons_succ, i64_w, i32_w]
          rfl
        refine pure_ (i := 6) (N := some 80) (v := ?_) (a' := ?_) #[true, true, true, true, false, true, true, false, false, false, false, false, false, false, false] rfl rfl (by kernel_rfl) (fun _ _ _ h => h) (Or.inl ⟨by rfl, ?_⟩) ?_ ?_
        rotate_left
        · intro w'
          go_simp
          with_reducible rfl
        rotate_left
        · simp only [Act.put, List.setIfInBounds_toArray, List.set_cons_zero, List.set_cons_succ, i64_w, i32_w]
          rfl
        refine pure_ (i := 7) (N := some 81) (v := ?_) (a' := ?_) #[true, true, true, true, false, true, true, true, false, false, false, false, false, false, false] rfl rfl (by kernel_rfl) (fun _ _ _ h => h) (Or.inl ⟨by rfl, ?_⟩) ?_ ?_
        rotate_left
        · intro w'
          go_simp
          with_reducible rfl
        rotate_left
        · simp only [Act.put, List.setIfInBounds_toArray, List.set_cons_zero, List.set_cons_succ, i64_w, i32_w]
          rfl
        refine pure_ (i := 9) (N := some 83) (v := ?_) (a' := ?_) #[true, true, true, true, false, true, true, true, false, true, false, false, false, false, false] rfl rfl (by kernel_rfl) (fun _ _ _ h => h) (Or.inl ⟨by rfl, ?_⟩) ?_ ?_
        rotate_left
        · intro w'
          go_simp
          with_reducible rfl
        rotate_left
        · simp only [Act.put, List.setIfInBounds_toArray, List.set_cons_zero, List.set_cons_succ, i64_w, i32_w]
          rfl
        refine take_ (i := 4) (N := some 78) (v := ?_) (a' := ?_) #[true, true, true, true, true, true, true, true, false, true, false, false, false, false, false] rfl rfl (by kernel_rfl) (fun _ _ _ h => h) (Or.inl ⟨by rfl, ?_⟩) hHeld ?_ ?_
        rotate_left
        · rintro w' ⟨s0, s1⟩
          go_simp
          with_reducible rfl
        rotate_left
        · simp only [Act.put, List.setIfInBounds_toArray, List.set_cons_zero, List.set_cons_succ, i64_w, i32_w]
          rfl
        refine take_ (i := 8) (N := some 82) (v := ?_) (a' := ?_) #[true, true, true, true, true, true, true, true, true, true, false, false, false, false, false] rfl rfl (by kernel_rfl) (fun _ _ _ h => h) (Or.inl ⟨by rfl, ?_⟩) hHeld ?_ ?_
        rotate_left
        · rintro w' ⟨s0, s1⟩
          go_simp
          with_reducible rfl
        rotate_left
        · simp only [Act.put, List.setIfInBounds_toArray, List.set_cons_zero, List.set_cons_succ, i64_w, i32_w]
          rfl
        refine pure_ (i := 10) (N := some 84) (v := ?_) (a' := ?_) #[true, true, true, true, true, true, true, true, true, true, true, false, false, false, false] rfl rfl (by kernel_rfl) (fun _ _ _ h => h) (Or.inl ⟨by rfl, ?_⟩) ?_ ?_
        rotate_left
        · intro w'
          go_simp
          with_reducible rfl
        rotate_left
        · simp only [Act.put, List.setIfInBounds_toArray, List.set_cons_zero, List.set_cons_succ, i64_w, i32_w]
          rfl
        refine pure_ (i := 11) (N := some 85) (v := ?_) (a' := ?_) #[true, true, true, true, true, true, true, true, true, true, true, true, false, false, false] rfl rfl (by kernel_rfl) (fun _ _ _ h => h) (Or.inl ⟨by rfl, ?_⟩) ?_ ?_
        rotate_left
        · intro w'
          go_simp
          with_reducible rfl
        rotate_left
        · simp only [Act.put, List.setIfInBounds_toArray, List.set_cons_zero, List.set_cons_succ, i64_w, i32_w]
          rfl
        refine pure_ (i := 12) (N := some 86) (v := ?_) (a' := ?_) #[true, true, true, true, true, true, true, true, true, true, true, true, true, false, false] rfl rfl (by kernel_rfl) (fun _ _ _ h => h) (Or.inl ⟨by rfl, ?_⟩) ?_ ?_
        rotate_left
        · intro w'
          go_simp
          with_reducible rfl
        rotate_left
        · simp only [Act.put, List.setIfInBounds_toArray, List.set_cons_zero, List.set_cons_succ, i64_w, i32_w]
          rfl
        refine pure_ (i := 13) (N := some 87) (v := ?_) (a' := ?_) #[true, true, true, true, true, true, true, true, true, true, true, true, true, true, false] rfl rfl (by kernel_rfl) (fun _ _ _ h => h) (Or.inl ⟨by rfl, ?_⟩) ?_ ?_
        rotate_left
        · intro w'
          go_simp
          with_reducible rfl
        rotate_left
        · simp only [Act.put, List.setIfInBounds_toArray, List.set_cons_zero, List.set_cons_succ, i64_w, i32_w]
          rfl
        refine last_ (i := 14) (N := none) #[true, true, true, true, true, true, true, true, true, true, true, true, true, true, true] rfl rfl (by kernel_rfl) (by decide) (fun K hK => ?_)
        refine skip_ (w1 := ?_) (by rfl) rfl ?_ ?_
        rotate_left
        · go_simp
          rfl
        try clear hHeld
        refine hK.out _ _ ?_
        clear hK K
        try clear hHeld
        refine done_ (by kernel_rfl) ?_
        clear a0 a1 z0 z1 a0e a1e z0e z1e
        have hbs := (HBX.out.set 0 (.slice fa q fc)).drew
        have s0 := hbs.cell 0
        have s1 := hbs.cell 1
        have t1 := hbs.frozen 1
        simp only [List.setIfInBounds_toArray, List.set_cons_zero, List.getElem?_toArray, List.getElem?_cons_zero, List.getElem?_cons_succ] at s0 s1
        clear hbs
        go_wp2_with fail
        obtain ⟨D1, D2⟩ := CR.out X.drew (Keeps.refl _ _).drew
        go_roundw
        case rel => exact ⟨i + 1, by omega, by go_num, D1, D2⟩
        case measure => simp [intOf]; omega
      · have hkpos : 0 < keep.length := List.length_pos_iff.2 hk0
        have d2 : decide ((0 : Int) < (keep.length : Int)) = true := decide_eq_true (by omega)
        have d3 : decide (0 < keep.length) = true := decide_eq_true (by omega)
        have hkx : Keeps fp w X := (HK8.out.trans HKX.out (fun q hq => by
          by_cases hlt : q < w.heap.size
          · exact .inl ((HI8.out q hlt).1 hq)
          · exact .inr (by omega)))
        obtain ⟨va', vc', ev, -, -, hcv⟩ := id (HV.out.keeps hkx (HDD.out hkpos))
        simp only [Value.slice.injEq, true_and] at ev
        obtain ⟨rfl, rfl⟩ := ev
        obtain ⟨kb, ko, rfl, -, hcell⟩ := hcv hkpos
        obtain ⟨j, hj⟩ : ∃ j, j = i % keep.length := ⟨_, rfl⟩
        have hjl : j < keep.length := by rw [hj]; exact Nat.mod_lt _ hkpos
        have cK := hcell j hjl
        have nz : ((keep.length : Int) == 0) = false := by simp; omega
        have tm : (i : Int).tmod (keep.length : Int) = (j : Int) := by rw [hj]; exact (Int.tmod_eq_emod_of_nonneg (by omega)).trans (by omega)
        have wj : IntKind.i64.wrap (j : Int) = (j : Int) := IntWalk.i64_in _ (by omega)
        have j0 : (0 : Int) ≤ (j : Int) := by omega
        have j1 : (j : Int) < (keep.length : Int) := by omega
        have hqk := hqn hk0
        rw [← hj] at hqk
        clear hqn hq0
        generalize keep.getD j 0 = kx at *
        obtain ⟨d, hdd⟩ : ∃ d, d = bl - kp := ⟨_, rfl⟩
        rw [← hdd] at hqk
        have ws : IntKind.i64.wrap ((bl : Int) - (kp : Int)) = (d : Int) := by rw [show (bl : Int) - (kp : Int) = (d : Int) by omega]; exact IntWalk.i64_in _ (by omega)
        have HP := Lib.hid (show ∀ W, Calls Try.prog 57 #[.int .i64 kx, .int .i64 d] W fun e w' => e = .returned (.int .i64 (pickN kx d)) ∧ w' = W from fun W => r_pick W kx d (by omega))
        generalize pickN kx d = pk at *
        have wq : IntKind.i64.wrap ((kp : Int) + (pk : Int)) = (q : Int) := by rw [show (kp : Int) + (pk : Int) = (q : Int) by omega]; exact IntWalk.i64_in _ (by omega)
        clear hqk hcell hdd hj hkx hcv
        go_wp2_with fail
        refine start_ (n := 19) (S := fun w' => w'.cell? ⟨kb, ko + j, none⟩ = some (.int .i64 kx) ∧ w'.cell? ⟨R.fb x.2, 0, none⟩ = some (.slice fa bl fc) ∧ w'.cell? ⟨R.fb x.2, 1, none⟩ = some (.int .i64 kp)) (ds := []) #[false, false, false, false, false, false, false, false, false, false, false, false, false, false, false, false, false, false, false] (by kernel_rfl) rfl rfl ⟨cK, a0, a1⟩ (fun hHeld => ?_)
        refine pure_ (i := 0) (N := some 56) (v := ?_) (a' := ?_) #[true, false, false, false, false, false, false, false, false, false, false, false, false, false, false, false, false, false, false] rfl rfl (by kernel_rfl) (fun _ _ _ h => h) (Or.inl ⟨by rfl, ?_⟩) ?_ ?_
        rotate_left
        · intro w'
          go_simp
          with_reducible rfl
        rotate_left
        · simp only [Act.put, List.setIfInBounds_toArray, List.set_cons_zero, List.set_cons_succ, i64_w, i32_w]
          rfl
        refine pure_ (i := 1) (N := some 57) (v := ?_) (a' := ?_) #[true, true, false, false, false, false, false, false, false, false, false, false, false, false, false, false, false, false, false] rfl rfl (by kernel_rfl) (fun _ _ _ h => h) (Or.inl ⟨by rfl, ?_⟩) ?_ ?_
        rotate_left
        · intro w'
          go_simp
          with_reducible rfl
        rotate_left
        · simp only [Act.put, List.setIfInBounds_toArray, List.set_cons_zero, List.set_cons_succ, i64_w, i32_w]
          rfl
        refine pure_ (i := 2) (N := some 58) (v := ?_) (a' := ?_) #[true, true, true, false, false, false, false, false, false, false, false, false, false, false, false, false, false, false, false] rfl rfl (by kernel_rfl) (fun _ _ _ h => h) (Or.inl ⟨by rfl, ?_⟩) ?_ ?_
        rotate_left
        · intro w'
          go_simp
          with_reducible rfl
        rotate_left
        · simp only [Act.put, List.setIfInBounds_toArray, List.set_cons_zero, List.set_cons_succ, i64_w, i32_w]
          rfl
        refine pure_ (i := 3) (N := some 59) (v := ?_) (a' := ?_) #[true, true, true, true, false, false, false, false, false, false, false, false, false, false, false, false, false, false, false] rfl rfl (by kernel_rfl) (fun _ _ _ h => h) (Or.inl ⟨by rfl, ?_⟩) ?_ ?_
        rotate_left
        · intro w'
          go_simp
          with_reducible rfl
        rotate_left
        · simp only [Act.put, List.setIfInBounds_toArray, List.set_cons_zero, List.set_cons_succ, i64_w, i32_w]
          rfl
        refine pure_ (i := 4) (N := some 60) (v := ?_) (a' := ?_) #[true, true, true, true, true, false, false, false, false, false, false, false, false, false, false, false, false, false, false] rfl rfl (by kernel_rfl) (fun _ _ _ h => h) (Or.inl ⟨by rfl, ?_⟩) ?_ ?_
        rotate_left
        · intro w'
          go_simp
          with_reducible rfl
        rotate_left
        · simp only [Act.put, List.setIfInBounds_toArray, List.set_cons_zero, List.set_cons_succ, i64_w, i32_w]
          rfl
        refine pure_ (i := 5) (N := some 61) (v := ?_) (a' := ?_) #[true, true, true, true, true, true, false, false, false, false, false, false, false, false, false, false, false, false, false] rfl rfl (by kernel_rfl) (fun _ _ _ h => h) (Or.inl ⟨by rfl, ?_⟩) ?_ ?_
        rotate_left
        · intro w'
          go_simp
          with_reducible rfl
        rotate_left
        · simp only [Act.put, List.setIfInBounds_toArray, List.set_cons_zero, List.set_cons_succ, i64_w, i32_w]
          rfl
        refine pure_ (i := 7) (N := some 63) (v := ?_) (a' := ?_) #[true, true, true, true, true, true, false, true, false, false, false, false, false, false, false, false, false, false, false] rfl rfl (by kernel_rfl) (fun _ _ _ h => h) (Or.inl ⟨by rfl, ?_⟩) ?_ ?_
        rotate_left
        · intro w'
          go_simp
          with_reducible rfl
        rotate_left
        · simp only [Act.put, List.setIfInBounds_toArray, List.set_cons_zero, List.set_cons_succ, i64_w, i32_w]
          rfl
        refine pure_ (i := 8) (N := some 64) (v := ?_) (a' := ?_) #[true, true, true, true, true, true, false, true, true, false, false, false, false, false, false, false, false, false, false] rfl rfl (by kernel_rfl) (fun _ _ _ h => h) (Or.inl ⟨by rfl, ?_⟩) ?_ ?_
        rotate_left
        · intro w'
          go_simp
          with_reducible rfl
        rotate_left
        · simp only [Act.put, List.setIfInBounds_toArray, List.set_cons_zero, List.set_cons_succ, i64_w, i32_w]
          rfl
        refine pure_ (i := 9) (N := some 65) (v := ?_) (a' := ?_) #[true, true, true, true, true, true, false, true, true, true, false, false, false, false, false, false, false, false, false] rfl rfl (by kernel_rfl) (fun _ _ _ h => h) (Or.inl ⟨by rfl, ?_⟩) ?_ ?_
        rotate_left
        · intro w'
          go_simp
          with_reducible rfl
        rotate_left
        · simp only [Act.put, List.setIfInBounds_toArray, List.set_cons_zero, List.set_cons_succ, i64_w, i32_w]
          rfl
        refine pure_ (i := 12) (N := some 68) (v := ?_) (a' := ?_) #[true, true, true, true, true, true, false, true, true, true, false, false, true, false, false, false, false, false, false] rfl rfl (by kernel_rfl) (fun _ _ _ h => h) (Or.inl ⟨by rfl, ?_⟩) ?_ ?_
        rotate_left
        · intro w'
          go_simp
          with_reducible rfl
        rotate_left
        · simp only [Act.put, List.setIfInBounds_toArray, List.set_cons_zero, List.set_cons_succ, i64_w, i32_w]
          rfl
        refine pure_ (i := 13) (N := some 69) (v := ?_) (a' := ?_) #[true, true, true, true, true, true, false, true, true, true, false, false, true, true, false, false, false, false, false] rfl rfl (by kernel_rfl) (fun _ _ _ h => h) (Or.inl ⟨by rfl, ?_⟩) ?_ ?_
        rotate_left
        · intro w'
          go_simp
          with_reducible rfl
        rotate_left
        · simp only [Act.put, List.setIfInBounds_toArray, List.set_cons_zero, List.set_cons_succ, i64_w, i32_w]
          rfl
        refine pure_ (i := 14) (N := some 70) (v := ?_) (a' := ?_) #[true, true, true, true, true, true, false, true, true, true, false, false, true, true, true, false, false, false, false] rfl rfl (by kernel_rfl) (fun _ _ _ h => h) (Or.inl ⟨by rfl, ?_⟩) ?_ ?_
        rotate_left
        · intro w'
          go_simp
          with_reducible rfl
        rotate_left
        · simp only [Act.put, List.setIfInBounds_toArray, List.set_cons_zero, List.set_cons_succ, i64_w, i32_w]
          rfl
        refine take_ (i := 6) (N := some 62) (v := ?_) (a' := ?_) #[true, true, true, true, true, true, true, true, true, true, false, false, true, true, true, false, false, false, false] rfl rfl (by kernel_rfl) (fun _ _ _ h => h) (Or.inl ⟨by rfl, ?_⟩) hHeld ?_ ?_
        rotate_left
        · rintro w' ⟨s0, s1, s2⟩
          go_simp
          with_reducible rfl
        rotate_left
        · simp only [Act.put, List.setIfInBounds_toArray, List.set_cons_zero, List.set_cons_succ, i64_w, i32_w]
          rfl
        refine take_ (i := 10) (N := some 66) (v := ?_) (a' := ?_) #[true, true, true, true, true, true, true, true, true, true, true, false, true, true, true, false, false, false, false] rfl rfl (by kernel_rfl) (fun _ _ _ h => h) (Or.inl ⟨by rfl, ?_⟩) hHeld ?_ ?_
        rotate_left
        · rintro w' ⟨s0, s1, s2⟩
          go_simp
          with_reducible rfl
        rotate_left
        · simp only [Act.put, List.setIfInBounds_toArray, List.set_cons_zero, List.set_cons_succ, i64_w, i32_w]
          rfl
        refine pure_ (i := 11) (N := some 67) (v := ?_) (a' := ?_) #[true, true, true, true, true, true, true, true, true, true, true, true, true, true, true, false, false, false, false] rfl rfl (by kernel_rfl) (fun _ _ _ h => h) (Or.inl ⟨by rfl, ?_⟩) ?_ ?_
        rotate_left
        · intro w'
          go_simp
          with_reducible rfl
        rotate_left
        · simp only [Act.put, List.setIfInBounds_toArray, List.set_cons_zero, List.set_cons_succ, i64_w, i32_w]
          rfl
        refine take_ (i := 15) (N := some 71) (v := ?_) (a' := ?_) #[true, true, true, true, true, true, true, true, true, true, true, true, true, true, true, true, false, false, false] rfl rfl (by kernel_rfl) (fun _ _ _ h => h) (Or.inl ⟨by rfl, ?_⟩) hHeld ?_ ?_
        rotate_left
        · rintro w' ⟨s0, s1, s2⟩
          go_simp
          with_reducible rfl
        rotate_left
        · simp only [Act.put, List.setIfInBounds_toArray, List.set_cons_zero, List.set_cons_succ, i64_w, i32_w]
          rfl
        refine pure_ (i := 16) (N := some 72) (v := ?_) (a' := ?_) #[true, true, true, true, true, true, true, true, true, true, true, true, true, true, true, true, true, false, false] rfl rfl (by kernel_rfl) (fun _ _ _ h => h) (Or.inl ⟨by rfl, ?_⟩) ?_ ?_
        rotate_left
        · intro w'
          go_simp
          with_reducible rfl
        rotate_left
        · simp only [Act.put, List.setIfInBounds_toArray, List.set_cons_zero, List.set_cons_succ, i64_w, i32_w]
          rfl
        refine one_ (i := 17) (N := some 73) #[true, true, true, true, true, true, true, true, true, true, true, true, true, true, true, true, true, true, false] rfl rfl (by kernel_rfl) (by decide) (fun K hK => ?_)
        refine goes_ Try.func57 (by kernel_rfl) rfl #[.int .i64 kx, .int .i64 d] (by rfl) rfl rfl (by simp only [List.map_toArray, List.map_cons, List.map_nil]; rfl) ?_
        with_reducible refine ((HP.out _)).mono ?_
        rintro e w3 ⟨rfl, rfl⟩
        refine ⟨_, rfl, ?_⟩
        try clear hHeld
        refine hK.out _ _ ⟨cK, a0, a1⟩ (fun hHeld => ?_)
        clear hK K
        refine norm_ (a' := ?_) ?_ ?_
        rotate_left
        · show Act.put _ (some 73) _ = _
          simp only [Act.put, List.setIfInBounds_toArray, List.set_cons_zero, List.set_cons_succ, i64_w, i32_w]
          rfl
        refine pure_ (i := 18) (N := some 8) (v := ?_) (a' := ?_) #[true, true, true, true, true, true, true, true, true, true, true, true, true, true, true, true, true, true, true] rfl rfl (by kernel_rfl) (fun _ _ _ h => h) (Or.inl ⟨by rfl, ?_⟩) ?_ ?_
        rotate_left
        · intro w'
          go_simp
          with_reducible rfl
        rotate_left
        · simp only [Act.put, List.setIfInBounds_toArray, List.set_cons_zero, List.set_cons_succ, i64_w, i32_w]
          rfl
        try clear hHeld
        refine done_ (by kernel_rfl) ?_
        have a0d : X.drew.cell? ⟨R.fb x.2, 0, none⟩ = some (.slice fa bl fc) := a0
        have a1d : X.drew.cell? ⟨R.fb x.2, 1, none⟩ = some (.int .i64 kp) := a1
        have z0d : X.drew.frozen? ⟨R.fb x.2, 0, none⟩ = false := z0
        have z1d : X.drew.frozen? ⟨R.fb x.2, 1, none⟩ = false := z1
        have CRd := Lib.hid (fun Y (k : Keeps (fun _ => False) X.drew Y) => CR.out Y ((Keeps.refl _ X).drew.trans' k))
        have HBd := Lib.hid HBX.out.drew
        clear a0 a1 z0 z1 CR HBX
        clear cK HKX
        generalize X.drew = X' at *
        have a0 := a0d
        have a1 := a1d
        have z0 := z0d
        have z1 := z1d
        have CR := CRd
        have HBX := HBd
        clear a0d a1d z0d z1d CRd HBd
        clear HP
        go_wp2_with fail
        have z0e : X'.drew.frozen? ⟨R.fb x.2, 0, none⟩ = false := z0
        have z1e : X'.drew.frozen? ⟨R.fb x.2, 1, none⟩ = false := z1
        have a0e : X'.drew.cell? ⟨R.fb x.2, 0, none⟩ = some (.slice fa bl fc) := a0
        have a1e : X'.drew.cell? ⟨R.fb x.2, 1, none⟩ = some (.int .i64 kp) := a1
        refine start_ (n := 15) (S := fun w' => w'.cell? ⟨R.fb x.2, 0, none⟩ = some (.slice fa bl fc) ∧ w'.cell? ⟨R.fb x.2, 1, none⟩ = some (.int .i64 kp)) (ds := [14]) #[false, false, false, false, false, false, false, false, false, false, false, false, false, false, false] (by kernel_rfl) rfl rfl ⟨a0, a1⟩ (fun hHeld => ?_)
        refine pure_ (i := 0) (N := some 74) (v := ?_) (a' := ?_) #[true, false, false, false, false, false, false, false, false, false, false, false, false, false, false] rfl rfl (by kernel_rfl) (fun _ _ _ h => h) (Or.inl ⟨by rfl, ?_⟩) ?_ ?_
        rotate_left
        · intro w'
          go_simp
          with_reducible rfl
        rotate_left
        · simp only [Act.put, List.setIfInBounds_toArray, List.set_cons_zero, List.set_cons_succ, i64_w, i32_w]
          rfl
        refine pure_ (i := 1) (N := some 75) (v := ?_) (a' := ?_) #[true, true, false, false, false, false, false, false, false, false, false, false, false, false, false] rfl rfl (by kernel_rfl) (fun _ _ _ h => h) (Or.inl ⟨by rfl, ?_⟩) ?_ ?_
        rotate_left
        · intro w'
          go_simp
          with_reducible rfl
        rotate_left
        · simp only [Act.put, List.setIfInBounds_toArray, List.set_cons_zero, List.set_cons_succ, i64_w, i32_w]
          rfl
        refine pure_ (i := 2) (N := some 76) (v := ?_) (a' := ?_) #[true, true, true, false, false, false, false, false, false, false, false, false, false, false, false] rfl rfl (by kernel_rfl) (fun _ _ _ h => h) (Or.inl ⟨by rfl, ?_⟩) ?_ ?_
        rotate_left
        · intro w'
          go_simp
          with_reducible rfl
        rotate_left
        · simp only [Act.put, List.setIfInBounds_toArray, List.set_cons_zero, List.set_cons_succ, i64_w, i32_w]
          rfl
        refine pure_ (i := 3) (N := some 77) (v := ?_) (a' := ?_) #[true, true, true, true, false, false, false, false, false, false, false, false, false, false, false] rfl rfl (by kernel_rfl) (fun _ _ _ h => h) (Or.inl ⟨by rfl, ?_⟩) ?_ ?_
        rotate_left
        · intro w'
          go_simp
          with_reducible rfl
        rotate_left
        · simp only [Act.put, List.setIfInBounds_toArray, List.set_cons_zero, List.set_cons_succ, i64_w, i32_w]
          rfl
        refine pure_ (i := 5) (N := some 79) (v := ?_) (a' := ?_) #[true, true, true, true, false, true, false, false, false, false, false, false, false, false, false] rfl rfl (by kernel_rfl) (fun _ _ _ h => h) (Or.inl ⟨by rfl, ?_⟩) ?_ ?_
        rotate_left
        · intro w'
          go_simp
          with_reducible rfl
        rotate_left
        · simp only [Act.put, List.setIfInBounds_toArray, List.set_cons_zero, List.set_cons_succ, i64_w, i32_w]
          rfl
        refine pure_ (i := 6) (N := some 80) (v := ?_) (a' := ?_) #[true, true, true, true, false, true, true, false, false, false, false, false, false, false, false] rfl rfl (by kernel_rfl) (fun _ _ _ h => h) (Or.inl ⟨by rfl, ?_⟩) ?_ ?_
        rotate_left
        · intro w'
          go_simp
          with_reducible rfl
        rotate_left
        · simp only [Act.put, List.setIfInBounds_toArray, List.set_cons_zero, List.set_cons_succ, i64_w, i32_w]
          rfl
        refine pure_ (i := 7) (N := some 81) (v := ?_) (a' := ?_) #[true, true, true, true, false, true, true, true, false, false, false, false, false, false, false] rfl rfl (by kernel_rfl) (fun _ _ _ h => h) (Or.inl ⟨by rfl, ?_⟩) ?_ ?_
        rotate_left
        · intro w'
          go_simp
          with_reducible rfl
        rotate_left
        · simp only [Act.put, List.setIfInBounds_toArray, List.set_cons_zero, List.set_cons_succ, i64_w, i32_w]
          rfl
        refine pure_ (i := 9) (N := some 83) (v := ?_) (a' := ?_) #[true, true, true, true, false, true, true, true, false, true, false, false, false, false, false] rfl rfl (by kernel_rfl) (fun _ _ _ h => h) (Or.inl ⟨by rfl, ?_⟩) ?_ ?_
        rotate_left
        · intro w'
          go_simp
          with_reducible rfl
        rotate_left
        · simp only [Act.put, List.setIfInBounds_toArray, List.set_cons_zero, List.set_cons_succ, i64_w, i32_w]
          rfl
        refine take_ (i := 4) (N := some 78) (v := ?_) (a' := ?_) #[true, true, true, true, true, true, true, true, false, true, false, false, false, false, false] rfl rfl (by kernel_rfl) (fun _ _ _ h => h) (Or.inl ⟨by rfl, ?_⟩) hHeld ?_ ?_
        rotate_left
        · rintro w' ⟨s0, s1⟩
          go_simp
          with_reducible rfl
        rotate_left
        · simp only [Act.put, List.setIfInBounds_toArray, List.set_cons_zero, List.set_cons_succ, i64_w, i32_w]
          rfl
        refine take_ (i := 8) (N := some 82) (v := ?_) (a' := ?_) #[true, true, true, true, true, true, true, true, true, true, false, false, false, false, false] rfl rfl (by kernel_rfl) (fun _ _ _ h => h) (Or.inl ⟨by rfl, ?_⟩) hHeld ?_ ?_
        rotate_left
        · rintro w' ⟨s0, s1⟩
          go_simp
          with_reducible rfl
        rotate_left
        · simp only [Act.put, List.setIfInBounds_toArray, List.set_cons_zero, List.set_cons_succ, i64_w, i32_w]
          rfl
        refine pure_ (i := 10) (N := some 84) (v := ?_) (a' := ?_) #[true, true, true, true, true, true, true, true, true, true, true, false, false, false, false] rfl rfl (by kernel_rfl) (fun _ _ _ h => h) (Or.inl ⟨by rfl, ?_⟩) ?_ ?_
        rotate_left
        · intro w'
          go_simp
          with_reducible rfl
        rotate_left
        · simp only [Act.put, List.setIfInBounds_toArray, List.set_cons_zero, List.set_cons_succ, i64_w, i32_w]
          rfl
        refine pure_ (i := 11) (N := some 85) (v := ?_) (a' := ?_) #[true, true, true, true, true, true, true, true, true, true, true, true, false, false, false] rfl rfl (by kernel_rfl) (fun _ _ _ h => h) (Or.inl ⟨by rfl, ?_⟩) ?_ ?_
        rotate_left
        · intro w'
          go_simp
          with_reducible rfl
        rotate_left
        · simp only [Act.put, List.setIfInBounds_toArray, List.set_cons_zero, List.set_cons_succ, i64_w, i32_w]
          rfl
        refine pure_ (i := 12) (N := some 86) (v := ?_) (a' := ?_) #[true, true, true, true, true, true, true, true, true, true, true, true, true, false, false] rfl rfl (by kernel_rfl) (fun _ _ _ h => h) (Or.inl ⟨by rfl, ?_⟩) ?_ ?_
        rotate_left
        · intro w'
          go_simp
          with_reducible rfl
        rotate_left
        · simp only [Act.put, List.setIfInBounds_toArray, List.set_cons_zero, List.set_cons_succ, i64_w, i32_w]
          rfl
        refine pure_ (i := 13) (N := some 87) (v := ?_) (a' := ?_) #[true, true, true, true, true, true, true, true, true, true, true, true, true, true, false] rfl rfl (by kernel_rfl) (fun _ _ _ h => h) (Or.inl ⟨by rfl, ?_⟩) ?_ ?_
        rotate_left
        · intro w'
          go_simp
          with_reducible rfl
        rotate_left
        · simp only [Act.put, List.setIfInBounds_toArray, List.set_cons_zero, List.set_cons_succ, i64_w, i32_w]
          rfl
        refine last_ (i := 14) (N := none) #[true, true, true, true, true, true, true, true, true, true, true, true, true, true, true] rfl rfl (by kernel_rfl) (by decide) (fun K hK => ?_)
        refine skip_ (w1 := ?_) (by rfl) rfl ?_ ?_
        rotate_left
        · go_simp
          rfl
        try clear hHeld
        refine hK.out _ _ ?_
        clear hK K
        try clear hHeld
        refine done_ (by kernel_rfl) ?_
        clear a0 a1 z0 z1 a0e a1e z0e z1e
        have hbs := (HBX.out.set 0 (.slice fa q fc)).drew
        have s0 := hbs.cell 0
        have s1 := hbs.cell 1
        have t1 := hbs.frozen 1
        simp only [List.setIfInBounds_toArray, List.set_cons_zero, List.getElem?_toArray, List.getElem?_cons_zero, List.getElem?_cons_succ] at s0 s1
        clear hbs
        go_wp2_with fail
        obtain ⟨D1, D2⟩ := CR.out X'.drew (Keeps.refl _ _).drew
        go_roundw
        case rel => exact ⟨i + 1, by omega, by go_num, D1, D2⟩
        case measure => simp [intOf]; omega
    · have hil : i = (S.back names).length := by omega
      have d1 : decide ((i : Int) < ((S.back names).length : Int)) = false := decide_eq_false (by omega)
      rw [hil, cutTo_all] at hD
      have FIN := Lib.hid (show RPost w base fp br (S.crash names keep) (.tuple #[]) (.returned (.tuple #[])) wr from ⟨rfl, fp1, _, hD, HI8.out, HK8.out.trans kW (fun q hq => by
        by_cases hlt : q < w.heap.size
        · exact .inl ((HI8.out q hlt).1 hq)
        · exact .inr (by omega))⟩)
      clear hD kW
      go_wp2_with fail
      go_end0
      exact FIN.out
end
end Go.Proofs.Ytpckjinlopmbcaa
