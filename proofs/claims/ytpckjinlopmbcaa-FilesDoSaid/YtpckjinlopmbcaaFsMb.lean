/-
  Package files: Crash.
-/
import Derived.Test.YtpckjinlopmbcaaFsMa2
import Derived.Test.YtpckjinlopmbcaaFsL
import Derived.Test.YtpckjinlopmbcaaWLast
import Derived.StillTailTactics
namespace Go.Proofs.Ytpckjinlopmbcaa
set_option linter.unusedVariables false
set_option maxRecDepth 100000
set_option linter.unusedSimpArgs false
open Go.RowKit Go.Maps
open Go.Proofs.YtpckjinlopmbcaaW.PrintLast
section
variable {w w' W : World} {base bd m : Nat} {fp fp' : Nat → Prop} {R : FRef} {S : FS}
/-- What a round of the changes needs. -/
theorem waits_at (h : DRep0 w base fp bd R S) {k : Nat} (hk : k < S.waits.length) (kW : Keeps (fun q => q = R.bk) w W) : ∃ ch g c v, S.waits[k]? = some ch ∧ R.vw = .slice (some ⟨g, 0, none⟩) S.waits.length c ∧ W.cell? ⟨g, k, none⟩ = some v ∧ WRep W fp R.fb v ch ∧ W.cell? ⟨bd, 1, none⟩ = some (.map (some R.bk)) := by
  have P := h.parts
  have hO := P.waits.own
  rw [P.waits.len] at hO
  obtain ⟨g, c, e, -⟩ := own_open hO (by omega)
  obtain ⟨ch, hch⟩ : ∃ ch, S.waits[k]? = some ch := ⟨_, List.getElem?_eq_getElem hk⟩
  obtain ⟨v, hv, hr⟩ := P.waits.rep k _ hch
  have hO2 := own_keeps hO kW (fun q hq hf => ownD_ne' P.kept hO (hf ▸ hq))
  rw [e] at hO2
  refine ⟨ch, g, c, v, hch, e, (World.ownsRow.cellAt hO2 k (by omega)).trans hv, ?_, (h.blk.keeps kW (fun e => ownD_ne P.kept h.blk e.symm)).cell 1⟩
  refine hr.keeps kW (fun q _ hb hf => ?_) (fun _ h => h) (by cases ch <;> first | rfl | trivial)
  obtain ⟨u, T, _, hu⟩ := hb
  exact ownD_ne P.kept hu hf.symm
/-- A round of the cutting. -/
theorem crash_round {w8 X : World} {names : Int} {keep : List Int} {i : Nat} {fv : Nat → Value} (D : DRep0 X base fp bd { noW R with fv := fv } (S.cutTo names keep i)) (hw : base ≤ X.heap.size) {x : Int × Nat} (hx : (S.back names)[i]? = some x) {fa : Option Addr} {fc : Nat} (efv : fv x.2 = .slice fa ((S.cutTo names keep i).files x.2).b.length fc) (k8 : Keeps fp w8 X) {q : Nat} (hq : q = keepN keep i ((S.cutTo names keep i).files x.2)) :
    (∃ fv', DRep0 ((X.setCell ⟨R.fb x.2, 0, none⟩ (.slice fa q fc)).setCell ⟨R.fb x.2, 1, none⟩ (.int .i64 q)) base fp bd { noW R with fv := fv' } (S.cutTo names keep (i + 1))) ∧ Keeps fp w8 ((X.setCell ⟨R.fb x.2, 0, none⟩ (.slice fa q fc)).setCell ⟨R.fb x.2, 1, none⟩ (.int .i64 q)) := by
  have hf : x.2 < (S.cutTo names keep i).many := D.inv.lt x (.inl (List.mem_of_getElem? hx))
  have hfp : fp (R.fb x.2) := D.parts.files.fpb _ hf
  refine ⟨⟨updV fv x.2 (.slice fa q fc), ?_⟩, (k8.set _ 0 (.inl hfp) _).set _ 1 (.inl hfp) _⟩
  rw [cutTo_succ S names keep hx, trimF_eq, ← hq]
  exact D.trim hw hf (by rw [hq]; exact keepN_le _ _ _ (D.inv.le _)) efv
set_option maxHeartbeats 1600000 in
theorem fs_crash (h : DRep w base fp bd R m S) (hw0 : base ≤ w.heap.size) {names : Int} {v : Value} {keep : List Int} (hv : Rd w v keep) (hkl : keep.length ≤ 300) (hd : 0 < keep.length → ∀ k, v.ownBlock = some k → ¬ fp k) :
    Calls Try.prog 15 #[.pointer (some ⟨bd, 0, none⟩), .int .i64 names, v] w (FsPost w base fp bd m (S.crash names keep) (.tuple #[])) := by
  have hwl : S.waits.length ≤ 1000 := by have := h.small.dirs; have := h.small.top; omega
  have hO := h.parts.waits.own
  rw [h.parts.waits.len] at hO
  obtain ⟨aw, cw, ew, hcw1, hcw2⟩ := own_shape2 hO
  have c3 : w.cell? ⟨bd, 3, none⟩ = some R.vw := h.blk.cell 3
  rw [ew] at c3
  obtain ⟨va, vc, rfl⟩ : ∃ a c, v = .slice a keep.length c := by obtain ⟨a, c, e, _⟩ := id hv; exact ⟨a, c, e⟩
  have hp := pickN_le names S.waits.length
  have hP := fun W => fs_pick W names S.waits.length (by omega)
  obtain ⟨p, hpe⟩ : ∃ p, p = pickN names S.waits.length := ⟨_, rfl⟩
  rw [← hpe] at hP hp
  have p0 : (0 : Int) ≤ (p : Int) := by omega
  have p1 : (p : Int) ≤ (cw : Int) := by omega
  have HH := Lib.hid h
  have HV := Lib.hid hv
  have HD := Lib.hid hd
  have HPE := Lib.hid hpe
  have h0 := Lib.hid (show OwnD w R.fb R.bk (S.upto 0) from h.parts.kept)
  clear h hO hv hd hpe
  unfold maxLen at hcw2
  go_enter Try.func15, Try.ntmps15
  go_wp2_with fail
  refine start_ (n := 14) (S := fun w' => w'.cell? ⟨bd, 3, none⟩ = some (.slice aw S.waits.length cw)) (ds := []) #[false, false, false, false, false, false, false, false, false, false, false, false, false, false] (by kernel_rfl) rfl rfl (c3) (fun hHeld => ?_)
  refine pure_ (i := 0) (N := some 12) (v := ?_) (a' := ?_) #[true, false, false, false, false, false, false, false, false, false, false, false, false, false] rfl rfl (by kernel_rfl) (fun _ _ _ h => h) (Or.inl ⟨by rfl, ?_⟩) ?_ ?_
  rotate_left
  · intro w'
    go_simp
    with_reducible rfl
  rotate_left
  · simp only [Act.put, List.setIfInBounds_toArray, List.set_cons_zero, List.set_cons_succ, i64_w, i32_w]
    rfl
  refine pure_ (i := 1) (N := some 13) (v := ?_) (a' := ?_) #[true, true, false, false, false, false, false, false, false, false, false, false, false, false] rfl rfl (by kernel_rfl) (fun _ _ _ h => h) (Or.inl ⟨by rfl, ?_⟩) ?_ ?_
  rotate_left
  · intro w'
    go_simp
    with_reducible rfl
  rotate_left
  · simp only [Act.put, List.setIfInBounds_toArray, List.set_cons_zero, List.set_cons_succ, i64_w, i32_w]
    rfl
  refine pure_ (i := 2) (N := some 14) (v := ?_) (a' := ?_) #[true, true, true, false, false, false, false, false, false, false, false, false, false, false] rfl rfl (by kernel_rfl) (fun _ _ _ h => h) (Or.inl ⟨by rfl, ?_⟩) ?_ ?_
  rotate_left
  · intro w'
    go_simp
    with_reducible rfl
  rotate_left
  · simp only [Act.put, List.setIfInBounds_toArray, List.set_cons_zero, List.set_cons_succ, i64_w, i32_w]
    rfl
  refine pure_ (i := 4) (N := some 16) (v := ?_) (a' := ?_) #[true, true, true, false, true, false, false, false, false, false, false, false, false, false] rfl rfl (by kernel_rfl) (fun _ _ _ h => h) (Or.inl ⟨by rfl, ?_⟩) ?_ ?_
  rotate_left
  · intro w'
    go_simp
    with_reducible rfl
  rotate_left
  · simp only [Act.put, List.setIfInBounds_toArray, List.set_cons_zero, List.set_cons_succ, i64_w, i32_w]
    rfl
  refine pure_ (i := 5) (N := some 17) (v := ?_) (a' := ?_) #[true, true, true, false, true, true, false, false, false, false, false, false, false, false] rfl rfl (by kernel_rfl) (fun _ _ _ h => h) (Or.inl ⟨by rfl, ?_⟩) ?_ ?_
  rotate_left
  · intro w'
    go_simp
    with_reducible rfl
  rotate_left
  · simp only [Act.put, List.setIfInBounds_toArray, List.set_cons_zero, List.set_cons_succ, i64_w, i32_w]
    rfl
  refine pure_ (i := 6) (N := some 18) (v := ?_) (a' := ?_) #[true, true, true, false, true, true, true, false, false, false, false, false, false, false] rfl rfl (by kernel_rfl) (fun _ _ _ h => h) (Or.inl ⟨by rfl, ?_⟩) ?_ ?_
  rotate_left
  · intro w'
    go_simp
    with_reducible rfl
  rotate_left
  · simp only [Act.put, List.setIfInBounds_toArray, List.set_cons_zero, List.set_cons_succ, i64_w, i32_w]
    rfl
  refine pure_ (i := 7) (N := some 19) (v := ?_) (a' := ?_) #[true, true, true, false, true, true, true, true, false, false, false, false, false, false] rfl rfl (by kernel_rfl) (fun _ _ _ h => h) (Or.inl ⟨by rfl, ?_⟩) ?_ ?_
  rotate_left
  · intro w'
    go_simp
    with_reducible rfl
  rotate_left
  · simp only [Act.put, List.setIfInBounds_toArray, List.set_cons_zero, List.set_cons_succ, i64_w, i32_w]
    rfl
  refine pure_ (i := 13) (N := some 25) (v := ?_) (a' := ?_) #[true, true, true, false, true, true, true, true, false, false, false, false, false, true] rfl rfl (by kernel_rfl) (fun _ _ _ h => h) (Or.inl ⟨by rfl, ?_⟩) ?_ ?_
  rotate_left
  · intro w'
    go_simp
    with_reducible rfl
  rotate_left
  · simp only [Act.put, List.setIfInBounds_toArray, List.set_cons_zero, List.set_cons_succ, i64_w, i32_w]
    rfl
  refine take_ (i := 3) (N := some 15) (v := ?_) (a' := ?_) #[true, true, true, true, true, true, true, true, false, false, false, false, false, true] rfl rfl (by kernel_rfl) (fun _ _ _ h => h) (Or.inl ⟨by rfl, ?_⟩) hHeld ?_ ?_
  rotate_left
  · intro w' s0
    go_simp
    with_reducible rfl
  rotate_left
  · simp only [Act.put, List.setIfInBounds_toArray, List.set_cons_zero, List.set_cons_succ, i64_w, i32_w]
    rfl
  refine take_ (i := 8) (N := some 20) (v := ?_) (a' := ?_) #[true, true, true, true, true, true, true, true, true, false, false, false, false, true] rfl rfl (by kernel_rfl) (fun _ _ _ h => h) (Or.inl ⟨by rfl, ?_⟩) hHeld ?_ ?_
  rotate_left
  · intro w' s0
    go_simp
    with_reducible rfl
  rotate_left
  · simp only [Act.put, List.setIfInBounds_toArray, List.set_cons_zero, List.set_cons_succ, i64_w, i32_w]
    rfl
  refine pure_ (i := 9) (N := some 21) (v := ?_) (a' := ?_) #[true, true, true, true, true, true, true, true, true, true, false, false, false, true] rfl rfl (by kernel_rfl) (fun _ _ _ h => h) (Or.inl ⟨by rfl, ?_⟩) ?_ ?_
  rotate_left
  · intro w'
    go_simp
    with_reducible rfl
  rotate_left
  · simp only [Act.put, List.setIfInBounds_toArray, List.set_cons_zero, List.set_cons_succ, i64_w, i32_w]
    rfl
  refine one_ (i := 10) (N := some 22) #[true, true, true, true, true, true, true, true, true, true, true, false, false, true] rfl rfl (by kernel_rfl) (by decide) (fun K hK => ?_)
  refine goes_ Try.func34 (by kernel_rfl) rfl #[.int .i64 names, .int .i64 S.waits.length] (by rfl) rfl rfl (by simp only [List.map_toArray, List.map_cons, List.map_nil]; rfl) ?_
  with_reducible refine ((hP _)).mono ?_
  rintro e w3 ⟨rfl, rfl⟩
  refine ⟨_, rfl, ?_⟩
  try clear hHeld
  refine hK.out _ _ (c3) (fun hHeld => ?_)
  clear hK K
  refine norm_ (a' := ?_) ?_ ?_
  rotate_left
  · show Act.put _ (some 22) _ = _
    simp only [Act.put, List.setIfInBounds_toArray, List.set_cons_zero, List.set_cons_succ, i64_w, i32_w]
    rfl
  refine pure_ (i := 11) (N := some 23) (v := ?_) (a' := ?_) #[true, true, true, true, true, true, true, true, true, true, true, true, false, true] rfl rfl (by kernel_rfl) (fun _ _ _ h => h) (Or.inl ⟨by rfl, ?_⟩) ?_ ?_
  rotate_left
  · intro w'
    go_simp
    with_reducible rfl
  rotate_left
  · simp only [Act.put, List.setIfInBounds_toArray, List.set_cons_zero, List.set_cons_succ, i64_w, i32_w]
    rfl
  refine pure_ (i := 12) (N := some 24) (v := ?_) (a' := ?_) #[true, true, true, true, true, true, true, true, true, true, true, true, true, true] rfl rfl (by kernel_rfl) (fun _ _ _ h => h) (Or.inl ⟨by rfl, ?_⟩) ?_ ?_
  rotate_left
  · intro w'
    go_simp
    with_reducible rfl
  rotate_left
  · simp only [Act.put, List.setIfInBounds_toArray, List.set_cons_zero, List.set_cons_succ, i64_w, i32_w]
    rfl
  try clear hHeld
  refine done_ (by kernel_rfl) ?_
  go_wp2_with fail
  go_loopw [25] (fun kv wr => ∃ k : Nat, kv = .int .i64 k ∧ k ≤ p ∧ OwnD wr R.fb R.bk (S.upto k) ∧ Keeps (fun q => q = R.bk) w wr) (fun kv _ => p - (intOf kv).toNat)
  case atStart => exact ⟨0, rfl, Nat.zero_le _, ownD_keeps (F := fun _ => False) h0.out (Keeps.refl _ _).drew (fun h => h), (Keeps.refl _ _).drew⟩
  case round =>
    obtain ⟨k, rfl, hkp, hmk, kW⟩ := hrel
    by_cases hk : k < p
    · have d1 : decide ((k : Int) < (p : Int)) = true := decide_eq_true (by omega)
      obtain ⟨ch, g, c, v, hch, e, cv, hr, c1⟩ := waits_at HH.out.toDRep0 (show k < S.waits.length by omega) kW
      have k0 : (0 : Int) ≤ (k : Int) := by omega
      have kn : (k : Int) < (p : Int) := by omega
      have wk : IntKind.i64.wrap ((k : Int) + 1) = (k : Int) + 1 := IntWalk.i64_in _ (by omega)
      have hul := (upto_inv HH.out.inv k).2.2
      have hu2 : (S.upto k).length < 1000000 := by have := HH.out.small.dirs; have := HH.out.small.top; omega
      rw [ew] at e
      simp only [Value.slice.injEq] at e
      obtain ⟨e, -, -⟩ := e
      subst e
      have HUP := Lib.hid (upto_succ S hch)
      have HWK := Lib.hid kW
      have HMK := Lib.hid hmk
      have fin : ∀ w5, OwnD w5 R.fb R.bk (ch.app (S.upto k)) → wr.grownBy w5 (some R.bk) → OwnD w5 R.fb R.bk (S.upto (k + 1)) ∧ Keeps (fun q => q = R.bk) w w5 := fun w5 h5 g5 => ⟨by rw [HUP.out]; exact h5, HWK.out.trans' ((Keeps.refl _ _).grown g5 (fun q e => .inl (Option.some.inj e).symm))⟩
      have FIN := Lib.hid fin
      clear fin kW hmk hch
      cases ch with
      | put n f =>
        obtain ⟨q1, q2, rfl, b1, b2, f1, f2, hn⟩ := hr
        have HC := Lib.hid (fs_put HMK.out hu2 b1 b2 hn)
        clear b1 b2
        go_wp2_with (first
          | (go_at_call 30; refine HC.out.mono ?_; rintro e w5 ⟨rfl, h5, g5⟩))
        exact ⟨⟨k + 1, by go_num, by omega, FIN.out _ h5 g5⟩, by simp [intOf]; omega⟩
      | ren n f to =>
        obtain ⟨q1, q2, q3, rfl, b1, b2, b3, f1, f2, f3, hn, ht⟩ := hr
        have HC := Lib.hid (fs_ren HMK.out hu2 b1 b2 b3 hn ht)
        clear b1 b2 b3
        go_wp2_with (first
          | (go_at_call 37; refine HC.out.mono ?_; rintro e w5 ⟨rfl, h5, g5⟩))
        exact ⟨⟨k + 1, by go_num, by omega, FIN.out _ h5 g5⟩, by simp [intOf]; omega⟩
      | rem n =>
        obtain ⟨q1, rfl, b1, f1, hn⟩ := hr
        have HC := Lib.hid (fs_rem HMK.out b1 hn)
        clear b1
        go_wp2_with (first
          | (go_at_call 38; refine HC.out.mono ?_; rintro e w5 ⟨rfl, h5, g5⟩))
        exact ⟨⟨k + 1, by go_num, by omega, FIN.out _ h5 g5⟩, by simp [intOf]; omega⟩
    · have hkp2 : k = p := by omega
      clear hk
      rw [hkp2] at hmk
      rw [hkp2]
      clear hkp2 hkp k
      have d1 : decide ((p : Int) < (p : Int)) = false := decide_eq_false (by omega)
      have P := HH.out.parts
      have nkn : ¬ R.bn = R.bk := fun e => P.ne e.symm
      obtain ⟨w5, hc5, m5, k5⟩ := run_clear_dir (ownD_keeps P.now kW nkn)
      have e5 : S.upto p = S.back names := by rw [HPE.out]; rfl
      rw [e5] at hmk
      have mk5 := ownD_keeps hmk k5 P.ne
      have kw5 : Keeps (fun q => q = R.bk ∨ q = R.bn) w w5 := (kW.mono (fun q e => .inl e)).trans' (k5.mono (fun q e => .inr e))
      have bd5 := HH.out.blk.keeps kw5 (fun e => by
        rcases e with e | e
        · exact ownD_ne P.kept HH.out.blk e.symm
        · exact ownD_ne P.now HH.out.blk e.symm)
      have bdr := HH.out.blk.keeps kW (fun e => ownD_ne P.kept HH.out.blk e.symm)
      have c2 : wr.cell? ⟨bd, 2, none⟩ = some (.map (some R.bn)) := bdr.cell 2
      have f1 : w5.cell? ⟨bd, 1, none⟩ = some (.map (some R.bk)) := bd5.cell 1
      have f2 : w5.cell? ⟨bd, 2, none⟩ = some (.map (some R.bn)) := bd5.cell 2
      have hinv := upto_inv HH.out.inv p
      rw [e5] at hinv
      have hlc := lib_copy (w := w5.drew) m5 mk5 (fun e => nkn e) (by have := HH.out.small.dirs; have := HH.out.small.top; omega) hinv.1
      have HLC := Lib.hid hlc
      have HKW := Lib.hid kw5
      have HMK := Lib.hid mk5
      have HBD := Lib.hid bd5
      have HIN := Lib.hid hinv
      clear hlc kw5 mk5 bd5 bdr hmk kW m5 k5 hinv P
      go_wp2_with (at_builtin; refine wpList_clear1 _ rfl _ _ rfl (.map (some R.bn)) rfl hc5 ?_)
      have nbd : ¬ bd = R.bn := fun e => ownD_ne HH.out.parts.now HH.out.blk e.symm
      refine start_ (n := 9) (S := fun w' => w'.cell? ⟨bd, 1, none⟩ = some (.map (some R.bk)) ∧ w'.cell? ⟨bd, 2, none⟩ = some (.map (some R.bn))) (ds := []) #[false, false, false, false, false, false, false, false, false] (by kernel_rfl) rfl rfl ⟨f1, f2⟩ (fun hHeld => ?_)
      refine pure_ (i := 0) (N := some 40) (v := ?_) (a' := ?_) #[true, false, false, false, false, false, false, false, false] rfl rfl (by kernel_rfl) (fun _ _ _ h => h) (Or.inl ⟨by rfl, ?_⟩) ?_ ?_
      rotate_left
      · intro w'
        go_simp
        with_reducible rfl
      rotate_left
      · simp only [Act.put, List.setIfInBounds_toArray, List.set_cons_zero, List.set_cons_succ, i64_w, i32_w]
        rfl
      refine pure_ (i := 1) (N := some 41) (v := ?_) (a' := ?_) #[true, true, false, false, false, false, false, false, false] rfl rfl (by kernel_rfl) (fun _ _ _ h => h) (Or.inl ⟨by rfl, ?_⟩) ?_ ?_
      rotate_left
      · intro w'
        go_simp
        with_reducible rfl
      rotate_left
      · simp only [Act.put, List.setIfInBounds_toArray, List.set_cons_zero, List.set_cons_succ, i64_w, i32_w]
        rfl
      refine pure_ (i := 2) (N := some 42) (v := ?_) (a' := ?_) #[true, true, true, false, false, false, false, false, false] rfl rfl (by kernel_rfl) (fun _ _ _ h => h) (Or.inl ⟨by rfl, ?_⟩) ?_ ?_
      rotate_left
      · intro w'
        go_simp
        with_reducible rfl
      rotate_left
      · simp only [Act.put, List.setIfInBounds_toArray, List.set_cons_zero, List.set_cons_succ, i64_w, i32_w]
        rfl
      refine pure_ (i := 4) (N := some 44) (v := ?_) (a' := ?_) #[true, true, true, false, true, false, false, false, false] rfl rfl (by kernel_rfl) (fun _ _ _ h => h) (Or.inl ⟨by rfl, ?_⟩) ?_ ?_
      rotate_left
      · intro w'
        go_simp
        with_reducible rfl
      rotate_left
      · simp only [Act.put, List.setIfInBounds_toArray, List.set_cons_zero, List.set_cons_succ, i64_w, i32_w]
        rfl
      refine pure_ (i := 5) (N := some 45) (v := ?_) (a' := ?_) #[true, true, true, false, true, true, false, false, false] rfl rfl (by kernel_rfl) (fun _ _ _ h => h) (Or.inl ⟨by rfl, ?_⟩) ?_ ?_
      rotate_left
      · intro w'
        go_simp
        with_reducible rfl
      rotate_left
      · simp only [Act.put, List.setIfInBounds_toArray, List.set_cons_zero, List.set_cons_succ, i64_w, i32_w]
        rfl
      refine pure_ (i := 6) (N := some 46) (v := ?_) (a' := ?_) #[true, true, true, false, true, true, true, false, false] rfl rfl (by kernel_rfl) (fun _ _ _ h => h) (Or.inl ⟨by rfl, ?_⟩) ?_ ?_
      rotate_left
      · intro w'
        go_simp
        with_reducible rfl
      rotate_left
      · simp only [Act.put, List.setIfInBounds_toArray, List.set_cons_zero, List.set_cons_succ, i64_w, i32_w]
        rfl
      refine take_ (i := 3) (N := some 43) (v := ?_) (a' := ?_) #[true, true, true, true, true, true, true, false, false] rfl rfl (by kernel_rfl) (fun _ _ _ h => h) (Or.inl ⟨by rfl, ?_⟩) hHeld ?_ ?_
      rotate_left
      · rintro w' ⟨s0, s1⟩
        go_simp
        with_reducible rfl
      rotate_left
      · simp only [Act.put, List.setIfInBounds_toArray, List.set_cons_zero, List.set_cons_succ, i64_w, i32_w]
        rfl
      refine take_ (i := 7) (N := some 47) (v := ?_) (a' := ?_) #[true, true, true, true, true, true, true, true, false] rfl rfl (by kernel_rfl) (fun _ _ _ h => h) (Or.inl ⟨by rfl, ?_⟩) hHeld ?_ ?_
      rotate_left
      · rintro w' ⟨s0, s1⟩
        go_simp
        with_reducible rfl
      rotate_left
      · simp only [Act.put, List.setIfInBounds_toArray, List.set_cons_zero, List.set_cons_succ, i64_w, i32_w]
        rfl
      refine one_ (i := 8) (N := some 48) #[true, true, true, true, true, true, true, true, true] rfl rfl (by kernel_rfl) (by decide) (fun K hK => ?_)
      refine goes_ Try.func35 (by kernel_rfl) rfl #[.map (some R.bn), .map (some R.bk)] (by rfl) rfl rfl (by simp only [List.map_toArray, List.map_cons, List.map_nil]; rfl) ?_
      with_reducible refine (HLC.out).mono ?_
      rintro e w6 ⟨rfl, h6, g6⟩
      refine ⟨_, rfl, ?_⟩
      have kg := (Keeps.refl (fun q => q = R.bn) w5.drew).grown g6 (fun q e => .inl (Option.some.inj e).symm)
      try clear hHeld
      refine hK.out _ _ ⟨(kg.cellSome nbd f1), (kg.cellSome nbd f2)⟩ (fun hHeld => ?_)
      clear hK K
      refine norm_ (a' := ?_) ?_ ?_
      rotate_left
      · show Act.put _ (some 48) _ = _
        simp only [Act.put, List.setIfInBounds_toArray, List.set_cons_zero, List.set_cons_succ, i64_w, i32_w]
        rfl
      try clear hHeld
      refine done_ (by kernel_rfl) ?_
      have mk6 := ownD_keeps (w := w5.drew) HMK.out kg HH.out.parts.ne
      have bd6 : Blk w6 bd (dskV R S) _ := Blk.keeps (w := w5.drew) HBD.out kg nbd
      have kw6 : Keeps (fun q => q = R.bk ∨ q = R.bn ∨ q = bd) w w6 := (HKW.out.drew.mono (fun q e => by rcases e with e | e; exact .inl e; exact .inr (.inl e))).trans' (kg.mono (fun q e => .inr (.inl e)))
      clear f1 f2 c2 hc5 g6 kg HLC HMK HBD HKW
      have hB7 := ((bd6.set 3 (.slice none 0 0)).set 4 (.bool false)).set 5 (.bool false)
      have k7 := (((Keeps.refl (fun q => q = bd) w6).set bd 3 (.inl rfl) (.slice none 0 0)).set bd 4 (.inl rfl) (.bool false)).set bd 5 (.inl rfl) (.bool false)
      have h7 : DRep0 (((w6.setCell ⟨bd, 3, none⟩ (.slice none 0 0)).setCell ⟨bd, 4, none⟩ (.bool false)).setCell ⟨bd, 5, none⟩ (.bool false)) base fp bd (noW R) (S.back0 names) := HH.out.toDRep0.back names (kw6.trans' (k7.mono (fun q e => .inr (.inr e)))) (ownD_keeps mk6 k7 (fun e => ownD_ne mk6 bd6 e)) (ownD_keeps h6 k7 (fun e => ownD_ne h6 bd6 e)) (by simpa [dskV, noW, FS.back0] using hB7)
      have k7w : Keeps fp w (((w6.setCell ⟨bd, 3, none⟩ (.slice none 0 0)).setCell ⟨bd, 4, none⟩ (.bool false)).setCell ⟨bd, 5, none⟩ (.bool false)) := (kw6.trans' (k7.mono (fun q e => .inr (.inr e)))).mono (fun q e => by
        rcases e with e | e | e
        · rw [e]; exact HH.out.parts.fpk
        · rw [e]; exact HH.out.parts.fpn
        · rw [e]; exact HH.out.fpd)
      have hN := fs_names (⟨h7, HH.out.small.back0 HH.out.inv names⟩ : DRep _ base fp bd _ m _)
      obtain ⟨N, hNe⟩ : ∃ N, N = (S.back names).map (·.1) := ⟨_, rfl⟩
      rw [show (S.back0 names).names = N from hNe.symm] at hN
      have HNE := Lib.hid hNe
      clear hNe
      have g3 : w6.cell? ⟨bd, 3, none⟩ = some R.vw := bd6.cell 3
      have g4 : w6.cell? ⟨bd, 4, none⟩ = some (.bool S.out) := bd6.cell 4
      have g5 : w6.cell? ⟨bd, 5, none⟩ = some (.bool S.armed) := bd6.cell 5
      have z3 := bd6.frozen 3
      have z4 := bd6.frozen 4
      have z5 := bd6.frozen 5
      rw [ew] at g3
      have HN := Lib.hid hN
      have H7 := Lib.hid h7
      have HK7 := Lib.hid k7w
      clear hN h7 hB7 k7 k7w kw6 bd6 mk6 h6
      go_wp2_with (first
        | (go_at_call 21; refine HN.out.mono ?_; rintro e w8 ⟨v8, rfl, ho8, hf8, hb8⟩; have h8 := H7.out.keeps (F := fun _ => False) (Keeps.ofBelow hb8) (fun _ _ h => h); obtain ⟨a8, c8, rfl⟩ := own_shape ho8; have hO8 := Lib.hid ho8; have HF8 := Lib.hid hf8; have H8 := Lib.hid h8; have HK8 := Lib.hid (HK7.out.trans' (Keeps.ofBelow hb8)); have hz8 := hb8.size; clear ho8 hf8 hb8 h8)
        | go_in)
      have hNl : N.length = (S.back names).length := by rw [HNE.out, List.length_map]
      have hNb : N.length ≤ 1000 := by have := HIN.out.2.2; have := HH.out.small.dirs; have := HH.out.small.top; omega
      have hk7s := HK7.out.size
      clear HN H7 HK7 g3 g4 g5 z3 z4 z5 hP nbd nkn
      have n8 : ∀ k, (Value.slice a8 N.length c8).ownBlock = some k → ¬ fp k := fun k hk hf => by
        have h1 := HF8.out k hk
        have h2 := (H8.out.lt k hf).2
        have h3 := own_lt hO8.out hk
        have h4 := (HH.out.lt k hf).2
        omega
      have N8 := Lib.hid n8
      clear n8
      go_loopw [61] (fun kv wr => ∃ i : Nat, kv = .int .i64 i ∧ i ≤ N.length ∧ (∃ fv, DRep0 wr base fp bd { noW R with fv := fv } (S.cutTo names keep i)) ∧ Keeps fp w8 wr) (fun kv _ => N.length - (intOf kv).toNat)
      case atStart => exact ⟨0, rfl, Nat.zero_le _, ⟨(noW R).fv, H8.out⟩, Keeps.refl _ _⟩
      case round =>
        obtain ⟨i, rfl, hi, ⟨fv, hD⟩, kW⟩ := hrel
        by_cases hlt : i < N.length
        · have d1 : decide ((i : Int) < (N.length : Int)) = true := decide_eq_true (by omega)
          obtain ⟨x, hx⟩ : ∃ x, (S.back names)[i]? = some x := ⟨_, List.getElem?_eq_getElem (by omega)⟩
          obtain ⟨g8, c8', e8, -, -⟩ := own_open hO8.out (by omega)
          simp only [Value.slice.injEq] at e8
          obtain ⟨rfl, -, rfl⟩ := e8
          have cN : wr.cell? ⟨g8, i, none⟩ = some (.int .i64 x.1) := by
            rw [World.ownsRow.cellAt (own_keeps hO8.out kW N8.out) i (by omega), ints_get _ _ hlt]
            congr 2
            rw [List.getD_eq_getElem?_getD, HNE.out, List.getElem?_map, hx]; rfl
          have hxm : x ∈ S.back names := List.mem_of_getElem? hx
          have hf : x.2 < (S.cutTo names keep i).many := hD.inv.lt x (.inl hxm)
          have hlk : (Instr.lookup 57 (.map (some R.bn)) (.int .i64 x.1) false).run Try.prog wr = .ok (.pointer (some ⟨R.fb x.2, 0, none⟩)) wr := by
            have := look_dir (w := wr) (b := R.bn) (fb := R.fb) (l := S.back names) hD.parts.now (ownD_wf hD.parts.now hxm)
            unfold ptrD at this
            rw [Ris.at_ HIN.out.1 (show (x.1, x.2) ∈ S.back names from hxm)] at this
            exact this
          have c2 : wr.cell? ⟨bd, 2, none⟩ = some (.map (some R.bn)) := hD.blk.cell 2
          have hB := hD.parts.files.blk x.2 hf
          have hOf := hD.parts.files.own x.2 hf
          obtain ⟨fa, fc, efv, hfc1, hfc2⟩ := own_shape2 hOf
          have efv : fv x.2 = .slice fa ((S.cutTo names keep i).files x.2).b.length fc := efv
          have a0 : wr.cell? ⟨R.fb x.2, 0, none⟩ = some (fv x.2) := hB.cell 0
          have a1 : wr.cell? ⟨R.fb x.2, 1, none⟩ = some (.int .i64 ((S.cutTo names keep i).files x.2).kept) := hB.cell 1
          rw [efv] at a0
          have z0 : wr.frozen? ⟨R.fb x.2, 0, none⟩ = false := hB.frozen 0
          have z1 : wr.frozen? ⟨R.fb x.2, 1, none⟩ = false := hB.frozen 1
          obtain ⟨q, hq⟩ : ∃ q, q = keepN keep i ((S.cutTo names keep i).files x.2) := ⟨_, rfl⟩
          have hql : q ≤ ((S.cutTo names keep i).files x.2).b.length := by rw [hq]; exact keepN_le _ _ _ (hD.inv.le _)
          have hkl2 := hD.inv.le x.2
          have hbl : ((S.cutTo names keep i).files x.2).b.length ≤ 300 * m := (HH.out.small.cutTo HH.out.inv names keep i).len x.2
          have htop := HH.out.small.top
          have hbz := HK8.out.size
          have hwz := kW.size
          have CR := Lib.hid (fun X (k : Keeps (fun _ => False) wr X) => crash_round (hD.keeps k (fun _ _ h => h)) (by have := k.size; omega) hx efv (kW.trans' (k.mono (fun _ h => h.elim))) hq)
          have HHQ := Lib.hid hq
          have HKW := Lib.hid kW
          clear hD kW hB hOf efv hxm hq hx hNl
          have hqn : ¬ keep = [] → q = ((S.cutTo names keep i).files x.2).kept + pickN (keep.getD (i % keep.length) 0) (((S.cutTo names keep i).files x.2).b.length - ((S.cutTo names keep i).files x.2).kept) := fun h => by rw [HHQ.out]; unfold keepN; rw [if_neg h]
          generalize ((S.cutTo names keep i).files x.2).b.length = bl at *
          unfold maxLen at hfc2
          have i0 : (0 : Int) ≤ (i : Int) := by omega
          have i1 : (i : Int) < (N.length : Int) := by omega
          have wi : IntKind.i64.wrap ((i : Int) + 1) = (i : Int) + 1 := IntWalk.i64_in _ (by omega)
          have q0 : (0 : Int) ≤ (q : Int) := by omega
          have q1 : (q : Int) ≤ (fc : Int) := by omega
          by_cases hk0 : keep = []
          · have d2 : decide ((0 : Int) < (keep.length : Int)) = false := decide_eq_false (by rw [hk0]; simp)
            have hqk : ((S.cutTo names keep i).files x.2).kept = q := by rw [HHQ.out]; unfold keepN; rw [if_pos hk0]; rfl
            rw [hqk] at a1
            clear hqk hqn
            go_wp2_with fail
            obtain ⟨D1, D2⟩ := CR.out wr (Keeps.refl _ _)
            exact ⟨⟨i + 1, by go_num, by omega, D1, D2⟩, by simp [intOf]; omega⟩
          · have hkpos : 0 < keep.length := List.length_pos_iff.2 hk0
            have d2 : decide ((0 : Int) < (keep.length : Int)) = true := decide_eq_true (by omega)
            obtain ⟨va', vc', ev, -, -, hcv⟩ := id (HV.out.keeps (HK8.out.trans' HKW.out) (HD.out hkpos))
            simp only [Value.slice.injEq, true_and] at ev
            obtain ⟨rfl, rfl⟩ := ev
            obtain ⟨kb, ko, rfl, -, hcell⟩ := hcv hkpos
            obtain ⟨j, hj⟩ : ∃ j, j = i % keep.length := ⟨_, rfl⟩
            have hjl : j < keep.length := by rw [hj]; exact Nat.mod_lt _ hkpos
            have cK := hcell j hjl
            have nz : ((keep.length : Int) == 0) = false := by simp; omega
            have tm : (i : Int).tmod (keep.length : Int) = (j : Int) := by rw [hj]; exact (Int.tmod_eq_emod_of_nonneg (by omega)).trans (by omega)
            have wj : IntKind.i64.wrap (j : Int) = (j : Int) := IntWalk.i64_in _ (by omega)
            have j0 : (0 : Int) ≤ (j : Int) := by omega
            have j1 : (j : Int) < (keep.length : Int) := by omega
            have hqk := hqn hk0
            rw [← hj] at hqk
            clear hqn
            generalize keep.getD j 0 = kx at *
            generalize ((S.cutTo names keep i).files x.2).kept = kp at *
            obtain ⟨d, hdd⟩ : ∃ d, d = bl - kp := ⟨_, rfl⟩
            rw [← hdd] at hqk
            have ws : IntKind.i64.wrap ((bl : Int) - (kp : Int)) = (d : Int) := by rw [show (bl : Int) - (kp : Int) = (d : Int) by omega]; exact IntWalk.i64_in _ (by omega)
            have HP := Lib.hid (fun W => fs_pick W kx d (by omega))
            generalize pickN kx d = pk at *
            have wq : IntKind.i64.wrap ((kp : Int) + (pk : Int)) = (q : Int) := by rw [show (kp : Int) + (pk : Int) = (q : Int) by omega]; exact IntWalk.i64_in _ (by omega)
            clear hqk hcell hdd hj
            go_wp2_with fail
            refine start_ (n := 21) (S := fun w' => w'.cell? ⟨kb, ko + j, none⟩ = some (.int .i64 kx) ∧ w'.cell? ⟨R.fb x.2, 0, none⟩ = some (.slice fa bl fc) ∧ w'.cell? ⟨R.fb x.2, 1, none⟩ = some (.int .i64 kp)) (ds := []) #[false, false, false, false, false, false, false, false, false, false, false, false, false, false, false, false, false, false, false, false, false] (by kernel_rfl) rfl rfl ⟨cK, a0, a1⟩ (fun hHeld => ?_)
            refine pure_ (i := 0) (N := some 79) (v := ?_) (a' := ?_) #[true, false, false, false, false, false, false, false, false, false, false, false, false, false, false, false, false, false, false, false, false] rfl rfl (by kernel_rfl) (fun _ _ _ h => h) (Or.inl ⟨by rfl, ?_⟩) ?_ ?_
            rotate_left
            · intro w'
              go_simp
              with_reducible rfl
            rotate_left
            · simp only [Act.put, List.setIfInBounds_toArray, List.set_cons_zero, List.set_cons_succ, i64_w, i32_w]
              rfl
            refine pure_ (i := 1) (N := some 80) (v := ?_) (a' := ?_) #[true, true, false, false, false, false, false, false, false, false, false, false, false, false, false, false, false, false, false, false, false] rfl rfl (by kernel_rfl) (fun _ _ _ h => h) (Or.inl ⟨by rfl, ?_⟩) ?_ ?_
            rotate_left
            · intro w'
              go_simp
              with_reducible rfl
            rotate_left
            · simp only [Act.put, List.setIfInBounds_toArray, List.set_cons_zero, List.set_cons_succ, i64_w, i32_w]
              rfl
            refine pure_ (i := 2) (N := some 81) (v := ?_) (a' := ?_) #[true, true, true, false, false, false, false, false, false, false, false, false, false, false, false, false, false, false, false, false, false] rfl rfl (by kernel_rfl) (fun _ _ _ h => h) (Or.inl ⟨by rfl, ?_⟩) ?_ ?_
            rotate_left
            · intro w'
              go_simp
              with_reducible rfl
            rotate_left
            · simp only [Act.put, List.setIfInBounds_toArray, List.set_cons_zero, List.set_cons_succ, i64_w, i32_w]
              rfl
            refine pure_ (i := 3) (N := some 82) (v := ?_) (a' := ?_) #[true, true, true, true, false, false, false, false, false, false, false, false, false, false, false, false, false, false, false, false, false] rfl rfl (by kernel_rfl) (fun _ _ _ h => h) (Or.inl ⟨by rfl, ?_⟩) ?_ ?_
            rotate_left
            · intro w'
              go_simp
              with_reducible rfl
            rotate_left
            · simp only [Act.put, List.setIfInBounds_toArray, List.set_cons_zero, List.set_cons_succ, i64_w, i32_w]
              rfl
            refine pure_ (i := 4) (N := some 83) (v := ?_) (a' := ?_) #[true, true, true, true, true, false, false, false, false, false, false, false, false, false, false, false, false, false, false, false, false] rfl rfl (by kernel_rfl) (fun _ _ _ h => h) (Or.inl ⟨by rfl, ?_⟩) ?_ ?_
            rotate_left
            · intro w'
              go_simp
              with_reducible rfl
            rotate_left
            · simp only [Act.put, List.setIfInBounds_toArray, List.set_cons_zero, List.set_cons_succ, i64_w, i32_w]
              rfl
            refine pure_ (i := 5) (N := some 84) (v := ?_) (a' := ?_) #[true, true, true, true, true, true, false, false, false, false, false, false, false, false, false, false, false, false, false, false, false] rfl rfl (by kernel_rfl) (fun _ _ _ h => h) (Or.inl ⟨by rfl, ?_⟩) ?_ ?_
            rotate_left
            · intro w'
              go_simp
              with_reducible rfl
            rotate_left
            · simp only [Act.put, List.setIfInBounds_toArray, List.set_cons_zero, List.set_cons_succ, i64_w, i32_w]
              rfl
            refine pure_ (i := 6) (N := some 85) (v := ?_) (a' := ?_) #[true, true, true, true, true, true, true, false, false, false, false, false, false, false, false, false, false, false, false, false, false] rfl rfl (by kernel_rfl) (fun _ _ _ h => h) (Or.inl ⟨by rfl, ?_⟩) ?_ ?_
            rotate_left
            · intro w'
              go_simp
              with_reducible rfl
            rotate_left
            · simp only [Act.put, List.setIfInBounds_toArray, List.set_cons_zero, List.set_cons_succ, i64_w, i32_w]
              rfl
            refine pure_ (i := 8) (N := some 87) (v := ?_) (a' := ?_) #[true, true, true, true, true, true, true, false, true, false, false, false, false, false, false, false, false, false, false, false, false] rfl rfl (by kernel_rfl) (fun _ _ _ h => h) (Or.inl ⟨by rfl, ?_⟩) ?_ ?_
            rotate_left
            · intro w'
              go_simp
              with_reducible rfl
            rotate_left
            · simp only [Act.put, List.setIfInBounds_toArray, List.set_cons_zero, List.set_cons_succ, i64_w, i32_w]
              rfl
            refine pure_ (i := 9) (N := some 88) (v := ?_) (a' := ?_) #[true, true, true, true, true, true, true, false, true, true, false, false, false, false, false, false, false, false, false, false, false] rfl rfl (by kernel_rfl) (fun _ _ _ h => h) (Or.inl ⟨by rfl, ?_⟩) ?_ ?_
            rotate_left
            · intro w'
              go_simp
              with_reducible rfl
            rotate_left
            · simp only [Act.put, List.setIfInBounds_toArray, List.set_cons_zero, List.set_cons_succ, i64_w, i32_w]
              rfl
            refine pure_ (i := 10) (N := some 89) (v := ?_) (a' := ?_) #[true, true, true, true, true, true, true, false, true, true, true, false, false, false, false, false, false, false, false, false, false] rfl rfl (by kernel_rfl) (fun _ _ _ h => h) (Or.inl ⟨by rfl, ?_⟩) ?_ ?_
            rotate_left
            · intro w'
              go_simp
              with_reducible rfl
            rotate_left
            · simp only [Act.put, List.setIfInBounds_toArray, List.set_cons_zero, List.set_cons_succ, i64_w, i32_w]
              rfl
            refine pure_ (i := 13) (N := some 92) (v := ?_) (a' := ?_) #[true, true, true, true, true, true, true, false, true, true, true, false, false, true, false, false, false, false, false, false, false] rfl rfl (by kernel_rfl) (fun _ _ _ h => h) (Or.inl ⟨by rfl, ?_⟩) ?_ ?_
            rotate_left
            · intro w'
              go_simp
              with_reducible rfl
            rotate_left
            · simp only [Act.put, List.setIfInBounds_toArray, List.set_cons_zero, List.set_cons_succ, i64_w, i32_w]
              rfl
            refine pure_ (i := 14) (N := some 93) (v := ?_) (a' := ?_) #[true, true, true, true, true, true, true, false, true, true, true, false, false, true, true, false, false, false, false, false, false] rfl rfl (by kernel_rfl) (fun _ _ _ h => h) (Or.inl ⟨by rfl, ?_⟩) ?_ ?_
            rotate_left
            · intro w'
              go_simp
              with_reducible rfl
            rotate_left
            · simp only [Act.put, List.setIfInBounds_toArray, List.set_cons_zero, List.set_cons_succ, i64_w, i32_w]
              rfl
            refine pure_ (i := 15) (N := some 94) (v := ?_) (a' := ?_) #[true, true, true, true, true, true, true, false, true, true, true, false, false, true, true, true, false, false, false, false, false] rfl rfl (by kernel_rfl) (fun _ _ _ h => h) (Or.inl ⟨by rfl, ?_⟩) ?_ ?_
            rotate_left
            · intro w'
              go_simp
              with_reducible rfl
            rotate_left
            · simp only [Act.put, List.setIfInBounds_toArray, List.set_cons_zero, List.set_cons_succ, i64_w, i32_w]
              rfl
            refine take_ (i := 7) (N := some 86) (v := ?_) (a' := ?_) #[true, true, true, true, true, true, true, true, true, true, true, false, false, true, true, true, false, false, false, false, false] rfl rfl (by kernel_rfl) (fun _ _ _ h => h) (Or.inl ⟨by rfl, ?_⟩) hHeld ?_ ?_
            rotate_left
            · rintro w' ⟨s0, s1, s2⟩
              go_simp
              with_reducible rfl
            rotate_left
            · simp only [Act.put, List.setIfInBounds_toArray, List.set_cons_zero, List.set_cons_succ, i64_w, i32_w]
              rfl
            refine take_ (i := 11) (N := some 90) (v := ?_) (a' := ?_) #[true, true, true, true, true, true, true, true, true, true, true, true, false, true, true, true, false, false, false, false, false] rfl rfl (by kernel_rfl) (fun _ _ _ h => h) (Or.inl ⟨by rfl, ?_⟩) hHeld ?_ ?_
            rotate_left
            · rintro w' ⟨s0, s1, s2⟩
              go_simp
              with_reducible rfl
            rotate_left
            · simp only [Act.put, List.setIfInBounds_toArray, List.set_cons_zero, List.set_cons_succ, i64_w, i32_w]
              rfl
            refine pure_ (i := 12) (N := some 91) (v := ?_) (a' := ?_) #[true, true, true, true, true, true, true, true, true, true, true, true, true, true, true, true, false, false, false, false, false] rfl rfl (by kernel_rfl) (fun _ _ _ h => h) (Or.inl ⟨by rfl, ?_⟩) ?_ ?_
            rotate_left
            · intro w'
              go_simp
              with_reducible rfl
            rotate_left
            · simp only [Act.put, List.setIfInBounds_toArray, List.set_cons_zero, List.set_cons_succ, i64_w, i32_w]
              rfl
            refine take_ (i := 16) (N := some 95) (v := ?_) (a' := ?_) #[true, true, true, true, true, true, true, true, true, true, true, true, true, true, true, true, true, false, false, false, false] rfl rfl (by kernel_rfl) (fun _ _ _ h => h) (Or.inl ⟨by rfl, ?_⟩) hHeld ?_ ?_
            rotate_left
            · rintro w' ⟨s0, s1, s2⟩
              go_simp
              with_reducible rfl
            rotate_left
            · simp only [Act.put, List.setIfInBounds_toArray, List.set_cons_zero, List.set_cons_succ, i64_w, i32_w]
              rfl
            refine pure_ (i := 17) (N := some 96) (v := ?_) (a' := ?_) #[true, true, true, true, true, true, true, true, true, true, true, true, true, true, true, true, true, true, false, false, false] rfl rfl (by kernel_rfl) (fun _ _ _ h => h) (Or.inl ⟨by rfl, ?_⟩) ?_ ?_
            rotate_left
            · intro w'
              go_simp
              with_reducible rfl
            rotate_left
            · simp only [Act.put, List.setIfInBounds_toArray, List.set_cons_zero, List.set_cons_succ, i64_w, i32_w]
              rfl
            refine one_ (i := 18) (N := some 97) #[true, true, true, true, true, true, true, true, true, true, true, true, true, true, true, true, true, true, true, false, false] rfl rfl (by kernel_rfl) (by decide) (fun K hK => ?_)
            refine goes_ Try.func34 (by kernel_rfl) rfl #[.int .i64 kx, .int .i64 d] (by rfl) rfl rfl (by simp only [List.map_toArray, List.map_cons, List.map_nil]; rfl) ?_
            with_reducible refine ((HP.out _)).mono ?_
            rintro e w3 ⟨rfl, rfl⟩
            refine ⟨_, rfl, ?_⟩
            try clear hHeld
            refine hK.out _ _ ⟨cK, a0, a1⟩ (fun hHeld => ?_)
            clear hK K
            refine norm_ (a' := ?_) ?_ ?_
            rotate_left
            · show Act.put _ (some 97) _ = _
              simp only [Act.put, List.setIfInBounds_toArray, List.set_cons_zero, List.set_cons_succ, i64_w, i32_w]
              rfl
            refine pure_ (i := 19) (N := some 98) (v := ?_) (a' := ?_) #[true, true, true, true, true, true, true, true, true, true, true, true, true, true, true, true, true, true, true, true, false] rfl rfl (by kernel_rfl) (fun _ _ _ h => h) (Or.inl ⟨by rfl, ?_⟩) ?_ ?_
            rotate_left
            · intro w'
              go_simp
              with_reducible rfl
            rotate_left
            · simp only [Act.put, List.setIfInBounds_toArray, List.set_cons_zero, List.set_cons_succ, i64_w, i32_w]
              rfl
            refine pure_ (i := 20) (N := some 11) (v := ?_) (a' := ?_) #[true, true, true, true, true, true, true, true, true, true, true, true, true, true, true, true, true, true, true, true, true] rfl rfl (by kernel_rfl) (fun _ _ _ h => h) (Or.inl ⟨by rfl, ?_⟩) ?_ ?_
            rotate_left
            · intro w'
              go_simp
              with_reducible rfl
            rotate_left
            · simp only [Act.put, List.setIfInBounds_toArray, List.set_cons_zero, List.set_cons_succ, i64_w, i32_w]
              rfl
            try clear hHeld
            refine done_ (by kernel_rfl) ?_
            go_wp2_with fail
            obtain ⟨D1, D2⟩ := CR.out wr.drew (Keeps.refl _ _).drew
            go_roundw
            case rel => exact ⟨i + 1, by go_num, by omega, D1, D2⟩
            case measure => simp [intOf]; omega
        · have : i = N.length := by omega
          subst this
          rw [hNl, cutTo_all] at hD
          have d1 : decide ((N.length : Int) < (N.length : Int)) = false := decide_eq_false (by omega)
          have hsm := HH.out.small.cutTo HH.out.inv names keep (S.back names).length
          rw [cutTo_all] at hsm
          have FIN := Lib.hid (show FsPost w base fp bd m (S.crash names keep) (.tuple #[]) (.returned (.tuple #[])) wr from ⟨rfl, fp, _, ⟨hD, hsm⟩, fun _ _ => Iff.rfl, HK8.out.trans' kW⟩)
          clear hD kW hsm
          go_wp2_with fail
          go_end0
          exact FIN.out
end
end Go.Proofs.Ytpckjinlopmbcaa
