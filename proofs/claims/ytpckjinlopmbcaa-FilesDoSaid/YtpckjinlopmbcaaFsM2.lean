/-
  Package files: the changes, Used, Read, Sync.
-/
import Derived.Test.YtpckjinlopmbcaaFsM1
import Derived.Maps.RangeWalk
namespace Go.Proofs.Ytpckjinlopmbcaa
set_option linter.unusedVariables false
set_option maxRecDepth 100000
set_option linter.unusedSimpArgs false
open Go.RowKit Go.Maps
/-- What a change leaves of the names. -/
def AppP (w : World) (fb : Nat → Nat) (b : Nat) (l : Dir) (c : Chg) (e : Ending) (w' : World) : Prop :=
  e = .returned (.tuple #[]) ∧ OwnD w' fb b (c.app l) ∧ w.grownBy w' (some b)
set_option maxHeartbeats 800000 in
theorem fs_put {w : World} {fb : Nat → Nat} {b q1 q2 f : Nat} {l : Dir} {n : Int} (h : OwnD w fb b l) (hl : l.length < 1000000) (b1 : Blk w q1 #[.pointer (some ⟨fb f, 0, none⟩)] 62) (b2 : Blk w q2 #[.int .i64 n] 3) (hn : (Lit.int .i64 n).wf = true) :
    Calls Try.prog 30 #[.map (some b), .pointer (some ⟨q1, 0, none⟩), .pointer (some ⟨q2, 0, none⟩)] w (AppP w fb b l (.put n f)) := by
  have c1 := b1.cell 0
  have c2 := b2.cell 0
  simp at c1 c2
  have FIN := Lib.hid (show ∀ w1, w1.ownsMap Try.prog 3 elF b (l.length + 1) ((dirD fb l).put (.int .i64 n) (.lit (.int .i64 (fb f)))) → w.grownBy w1 (some b) → AppP w fb b l (.put n f) (.returned (.tuple #[])) w1 from fun w1 h1 h2 => ⟨rfl, ownD_size (by rw [dirD_put] at h1; exact h1), h2⟩)
  clear b1 b2
  go_enter Try.func30, Try.ntmps30
  go_wp2_with (first
    | (at_mapUpdate; refine wpList_mapUpdate_own _ rfl _ _ _ 57 rfl 3 62 keyI Try.underlying57 elF b l.length (dirD fb l) rfl h (by unfold maxLen; omega) _ _ _ rfl rfl (keyI_mk hn) _ [] (elF_some _) ?_; intro w1 hown1 hg1)
    | go_in)
  go_end0
  exact FIN.out _ hown1 hg1
set_option maxHeartbeats 800000 in
theorem fs_ren {w : World} {fb : Nat → Nat} {b q1 q2 q3 f : Nat} {l : Dir} {n to : Int} (h : OwnD w fb b l) (hl : l.length < 1000000) (b1 : Blk w q1 #[.int .i64 n] 3) (b2 : Blk w q2 #[.pointer (some ⟨fb f, 0, none⟩)] 62) (b3 : Blk w q3 #[.int .i64 to] 3) (hn : (Lit.int .i64 n).wf = true) (ht : (Lit.int .i64 to).wf = true) :
    Calls Try.prog 37 #[.map (some b), .pointer (some ⟨q1, 0, none⟩), .pointer (some ⟨q2, 0, none⟩), .pointer (some ⟨q3, 0, none⟩)] w (AppP w fb b l (.ren n f to)) := by
  have c1 := b1.cell 0
  have e2 : some q2 ≠ some b := fun e => ownD_ne h b2 (Option.some.inj e).symm
  have e3 : some q3 ≠ some b := fun e => ownD_ne h b3 (Option.some.inj e).symm
  simp at c1
  have FIN := Lib.hid (show ∀ w1 w2, w1.ownsMap Try.prog 3 elF b l.length (dirD fb (rmD l n)) → w.grownBy w1 (some b) → w2.ownsMap Try.prog 3 elF b (l.length + 1) ((dirD fb (rmD l n)).put (.int .i64 to) (.lit (.int .i64 (fb f)))) → w1.grownBy w2 (some b) → AppP w fb b l (.ren n f to) (.returned (.tuple #[])) w2 from fun w1 w2 h1 g1 h2 g2 => ⟨rfl, ownD_size (by rw [dirD_put] at h2; exact h2), g1.andThen g2 (fun j hj => .inr hj)⟩)
  have B2 := Lib.hid b2
  have B3 := Lib.hid b3
  clear b1 b2 b3
  go_enter Try.func37, Try.ntmps37
  go_wp2_with (first
    | (at_delete; refine wpList_delete_own _ rfl _ _ 57 3 rfl 62 keyI Try.underlying57 elF b l.length (dirD fb l) rfl h _ _ rfl (keyI_mk hn) ?_; intro w1 hown1 ht1; rw [dirD_del] at hown1; have g1 := ht1.grown; have c2 := (Blk.cell ((g1.block q2 B2.out.lt e2).trans B2.out) 0); have c3 := (Blk.cell ((g1.block q3 B3.out.lt e3).trans B3.out) 0); simp at c2 c3)
    | (at_mapUpdate; refine wpList_mapUpdate_own _ rfl _ _ _ 57 rfl 3 62 keyI Try.underlying57 elF b l.length (dirD fb (rmD l n)) rfl hown1 (by unfold maxLen; omega) _ _ _ rfl rfl (keyI_mk ht) _ [] (elF_some _) ?_; intro w2 hown2 hg2)
    | go_in)
  go_end0
  exact FIN.out _ _ hown1 g1 hown2 hg2
set_option maxHeartbeats 800000 in
theorem fs_rem {w : World} {fb : Nat → Nat} {b q1 : Nat} {l : Dir} {n : Int} (h : OwnD w fb b l) (b1 : Blk w q1 #[.int .i64 n] 3) (hn : (Lit.int .i64 n).wf = true) :
    Calls Try.prog 38 #[.map (some b), .pointer (some ⟨q1, 0, none⟩)] w (AppP w fb b l (.rem n)) := by
  have c1 := b1.cell 0
  simp at c1
  have FIN := Lib.hid (show ∀ w1, w1.ownsMap Try.prog 3 elF b l.length (dirD fb (rmD l n)) → w.grownBy w1 (some b) → AppP w fb b l (.rem n) (.returned (.tuple #[])) w1 from fun w1 h1 h2 => ⟨rfl, ownD_size h1, h2⟩)
  clear b1
  go_enter Try.func38, Try.ntmps38
  go_wp2_with (first
    | (at_delete; refine wpList_delete_own _ rfl _ _ 57 3 rfl 62 keyI Try.underlying57 elF b l.length (dirD fb l) rfl h _ _ rfl (keyI_mk hn) ?_; intro w1 hown1 ht1; rw [dirD_del] at hown1; have g1 := ht1.grown)
    | go_in)
  go_end0
  exact FIN.out _ hown1 g1
theorem infoFn : (Try.prog.info? 66).map (fun i => (i.zero, i.size, i.bytes)) = some (some .nilFunc, 1, 8) := by kernel_rfl
section
variable {w w' : World} {base bd : Nat} {fp : Nat → Prop} {R : FRef} {S : FS}
theorem FInv.change (h : FInv S) (c : Chg) (hc : ChgLt S.many c) : FInv (S.change c) := by
  refine ⟨h.kept, h.now.app c, fun x hx => ?_, fun d hd => ?_, h.le, ?_⟩
  · rcases hx with hx | hx
    · show x.2 < S.many
      cases c with
      | put n f =>
        rcases mem_putD.1 hx with rfl | hx
        · exact hc
        · exact h.lt x (.inl hx.1)
      | ren n f to =>
        rcases mem_putD.1 hx with rfl | hx
        · exact hc
        · exact h.lt x (.inl (mem_rmD.1 hx.1).1)
      | rem n => exact h.lt x (.inl (mem_rmD.1 hx).1)
    · exact h.lt x (.inr hx)
  · rcases List.mem_append.1 hd with hd | hd
    · exact h.wlt d hd
    · rw [List.mem_singleton.1 hd]; exact hc
  · show c.app S.now = (S.waits ++ [c]).foldl Chg.app S.kept
    rw [List.foldl_append, ← h.eq]; rfl
/-- All new blocks are the disk's too. -/
def fpAll (fp : Nat → Prop) (w w' : World) (k : Nat) : Prop := fp k ∨ (w.heap.size ≤ k ∧ k < w'.heap.size)
/-- What change leaves. -/
def ChgP (w : World) (base : Nat) (fp : Nat → Prop) (bd : Nat) (R : FRef) (S : FS) (c : Chg) (v : Value) (e : Ending) (w' : World) : Prop :=
  e = .returned (.tuple #[]) ∧ ∃ vw', DRep0 w' base (fpAll fp w w') bd { R with vw := vw', wv := R.wv ++ [v] } (S.change c) ∧ Keeps fp w w'
theorem DRep0.change (h : DRep0 w base fp bd R S) (hw : base ≤ w.heap.size) {c : Chg} {v : Value} (hv : WRep w fp R.fb v c) (hc : ChgLt S.many c) {w1 w2 : World} {vw' : Value}
    (hm : OwnD w1 R.fb R.bn (c.app S.now)) (g1 : w.grownBy w1 (some R.bn)) (hown : Own w2 66 1 vw' (R.wv.length + 1) (R.wv ++ [v])) (g2 : (w1.alloc (.cells #[v] 66)).grownBy w2 R.vw.ownBlock) (hat : vw'.ownBlock = R.vw.ownBlock ∨ vw'.ownBlock = some (w1.heap.size + 1)) :
    ChgP w base fp bd R S c v (.returned (.tuple #[])) (w2.setCell ⟨bd, 3, none⟩ vw') := by
  have k1 : Keeps (fun q => q = R.bn) w w1 := (Keeps.refl _ w).grown g1 (fun k e => .inl (Option.some.inj e).symm)
  have k2 : Keeps (fun q => R.vw.ownBlock = some q) w1 w2 := ((Keeps.refl _ w1).alloc _).grown g2 (fun k e => .inl e)
  have P := h.parts
  have nbn : ∀ {cs : Array Value} {T : TypeId} {q : Nat}, Blk w q cs T → q ≠ R.bn := fun hq e => ownD_ne P.now hq e.symm
  have nbo : ∀ {e : TypeId} {s m : Nat} {v : Value} {xs : List Value}, Own w e s v m xs → ∀ q, v.ownBlock = some q → q ≠ R.bn := fun ho q hq e => ownD_ne' P.now ho (e ▸ hq)
  have hW1 : Own w1 66 1 R.vw R.wv.length R.wv := own_keeps P.waits.own k1 (nbo P.waits.own)
  have hB1 : Blk w1 bd (dskV R S) 60 := h.blk.keeps k1 (nbn h.blk)
  have hB2 : Blk w2 bd (dskV R S) 60 := hB1.keeps k2 (fun e => own_blk_ne hW1 hB1 (by decide) e)
  have hB3 : Blk (w2.setCell ⟨bd, 3, none⟩ vw') bd _ _ := hB2.set 3 vw'
  have k3 : Keeps (fun q => q = bd) w2 (w2.setCell ⟨bd, 3, none⟩ vw') := Keeps.one w2 ⟨bd, 3, none⟩ vw'
  have ka : Keeps (fun q => q = R.bn ∨ R.vw.ownBlock = some q) w w2 := (k1.mono (fun q e => .inl e)).trans' (k2.mono (fun q e => .inr e))
  have kk : Keeps (fun q => q = R.bn ∨ R.vw.ownBlock = some q ∨ q = bd) w (w2.setCell ⟨bd, 3, none⟩ vw') := (ka.mono (fun q e => by rcases e with e | e; exact .inl e; exact .inr (.inl e))).trans' (k3.mono (fun q e => .inr (.inr e)))
  have hfp : ∀ q, fp q → fpAll fp w (w2.setCell ⟨bd, 3, none⟩ vw') q := fun q hq => .inl hq
  have hk : ∀ {cs : Array Value} {T : TypeId} {q : Nat}, Blk w q cs T → T ≠ 66 → T ≠ 60 → ¬ (q = R.bn ∨ R.vw.ownBlock = some q ∨ q = bd) := fun hq n1 n2 e => by
    rcases e with e | e | e
    · exact nbn hq e
    · exact own_blk_ne P.waits.own hq (fun e => n1 e.symm) e
    · exact blk_ne hq h.blk n2 e
  have hbox : ∀ q, fp q → BoxB w q → ¬ (q = R.bn ∨ R.vw.ownBlock = some q ∨ q = bd) := fun q _ hb => by
    obtain ⟨v, T, hT, hv⟩ := hb
    rcases hT with rfl | rfl
    · exact hk hv (by decide) (by decide)
    · exact hk hv (by decide) (by decide)
  have hs1 := g1.size
  have hs2 := g2.size
  simp at hs2
  refine ⟨rfl, vw', ⟨by simpa [dskV, FS.change] using hB3, .inl h.fpd, ⟨?_, ?_, P.ne, .inl P.fpk, .inl P.fpn, ?_, ?_⟩, h.inv.change c hc, fun q hq => ?_⟩, kk.mono (fun q e => ?_)⟩
  · refine ownD_keeps P.kept kk (fun e => ?_)
    rcases e with e | e | e
    · exact P.ne e
    · exact ownD_ne' P.kept P.waits.own e
    · exact ownD_ne P.kept h.blk e
  · have k23 : Keeps (fun q => R.vw.ownBlock = some q ∨ q = bd) w1 (w2.setCell ⟨bd, 3, none⟩ vw') := (k2.mono (fun q e => .inl e)).trans' (k3.mono (fun q e => .inr e))
    refine ownD_keeps hm k23 (fun e => ?_)
    rcases e with e | e
    · exact ownD_ne' P.now P.waits.own e
    · exact ownD_ne P.now h.blk e
  · exact P.files.keeps kk (fun f hf => hk (P.files.blk f hf) (by decide) (by decide)) (fun f q hf hq e => by
      rcases e with e | e | e
      · exact nbo (P.files.own f hf) q hq e
      · exact own_type_ne (P.files.own f hf) P.waits.own (by decide) hq e
      · exact own_blk_ne (P.files.own f hf) h.blk (by decide) (e ▸ hq)) hfp (fun _ _ => rfl) (fun _ _ => rfl)
  · refine ⟨?_, ?_, fun i d hd => ?_, fun q hq => ?_⟩
    · have := own_keeps hown k3 (fun q hq e => own_blk_ne hown hB2 (by decide) (e ▸ hq))
      simpa using this
    · show (R.wv ++ [v]).length = (S.waits ++ [c]).length
      rw [List.length_append, List.length_append, P.waits.len]; rfl
    · have hd : (S.waits ++ [c])[i]? = some d := hd
      rcases Nat.lt_or_ge i S.waits.length with hi | hi
      · rw [List.getElem?_append_left hi] at hd
        obtain ⟨u, hu, hr⟩ := P.waits.rep i d hd
        refine ⟨u, ?_, hr.keeps kk hbox hfp (by cases d <;> first | rfl | trivial)⟩
        show (R.wv ++ [v])[i]? = some u
        rw [List.getElem?_append_left (by rw [P.waits.len]; exact hi)]; exact hu
      · rw [List.getElem?_append_right hi] at hd
        have hi0 : i = S.waits.length := by have := (List.getElem?_eq_some_iff.1 hd).1; simp at this; omega
        subst hi0
        have hdc : c = d := by simpa using hd
        subst hdc
        refine ⟨v, ?_, hv.keeps kk hbox hfp (by cases c <;> first | rfl | trivial)⟩
        show (R.wv ++ [v])[S.waits.length]? = some v
        rw [List.getElem?_append_right (by rw [P.waits.len]; exact Nat.le_refl _), P.waits.len]; simp
    · have hq : vw'.ownBlock = some q := hq
      have hlt := own_lt hown hq
      rcases hat with e | e
      · exact .inl (P.waits.fpw q (e ▸ hq))
      · rw [e] at hq
        have hq := Option.some.inj hq
        exact .inr ⟨by omega, by simpa using hlt⟩
  · rcases hq with hq | hq
    · have := h.lt q hq
      exact ⟨this.1, by simp; omega⟩
    · exact ⟨by omega, hq.2⟩
  · rcases e with e | e | e
    · rw [e]; exact P.fpn
    · exact P.waits.fpw q e
    · rw [e]; exact h.fpd
set_option maxHeartbeats 1600000 in
theorem fs_change_put (h : DRep0 w base fp bd R S) (hw : base ≤ w.heap.size) (hl : S.now.length < 1000000) (hl2 : R.wv.length < 1000000) {q1 q2 f : Nat} {n : Int} (b1 : Blk w q1 #[.pointer (some ⟨R.fb f, 0, none⟩)] 62) (b2 : Blk w q2 #[.int .i64 n] 3) (hn : (Lit.int .i64 n).wf = true) (f1 : fp q1) (f2 : fp q2) (hf : f < S.many) :
    Calls Try.prog 29 #[.pointer (some ⟨bd, 0, none⟩), .func (.func 30) #[] #[.pointer (some ⟨q1, 0, none⟩), .pointer (some ⟨q2, 0, none⟩)]] w (ChgP w base fp bd R S (.put n f) (.func (.func 30) #[] #[.pointer (some ⟨q1, 0, none⟩), .pointer (some ⟨q2, 0, none⟩)])) := by
  obtain ⟨i0, hi, hz0, hz1, hz2⟩ := info_parts infoFn
  have FIN := Lib.hid (fun w1 w2 vw' => DRep0.change h hw (c := .put n f) (v := .func (.func 30) #[] #[.pointer (some ⟨q1, 0, none⟩), .pointer (some ⟨q2, 0, none⟩)]) ⟨q1, q2, rfl, b1, b2, f1, f2, hn⟩ hf (w1 := w1) (w2 := w2) (vw' := vw'))
  have HN := Lib.hid h.parts.now
  have HW := Lib.hid h.parts.waits.own
  have hfr := h.blk.frozen 3
  have c2 : w.cell? ⟨bd, 2, none⟩ = some (.map (some R.bn)) := h.blk.cell 2
  have hB := Lib.hid h.blk
  have hne : some bd ≠ some R.bn := fun e => ownD_ne h.parts.now h.blk (Option.some.inj e).symm
  have hno : R.vw.ownBlock ≠ some R.bn := ownD_ne' h.parts.now h.parts.waits.own
  have hbw : R.vw.ownBlock ≠ some bd := own_blk_ne h.parts.waits.own h.blk (by decide)
  clear h
  go_enter Try.func29, Try.ntmps29
  go_wp2_with (first
    | (go_at_call 30; refine (fs_put HN.out hl b1 b2 hn).mono ?_; rintro e w1 ⟨rfl, hm, g1⟩; have hB1 := (g1.block bd hB.out.lt hne).trans hB.out; have c3 : w1.cell? ⟨bd, 3, none⟩ = some R.vw := Blk.cell hB1 3; have c30 := Lib.cell?_alloc_some (.cells #[.func (.func 30) #[] #[.pointer (some ⟨q1, 0, none⟩), .pointer (some ⟨q2, 0, none⟩)]] 66) c3; have hf3 : w1.frozen? ⟨bd, 3, none⟩ = false := Blk.frozen hB1 3; have HW1 := Lib.hid (own_keeps HW.out ((Keeps.refl (fun q => q = R.bn) w).grown g1 (fun k e => .inl (Option.some.inj e).symm)) (fun q hq e => hno (e ▸ hq))))
    | (at_builtin; (refine wpList_append_own_at _ rfl _ _ 58 rfl 0 66 i0 .nilFunc 1 8 Try.underlying58 hi hz0 hz1 hz2 rfl (by decide) R.vw R.wv.length R.wv rfl (HW1.out.alloc _) ⟨w1.heap.size, 0, none⟩ 1 1 [.func (.func 30) #[] #[.pointer (some ⟨q1, 0, none⟩), .pointer (some ⟨q2, 0, none⟩)]] rfl rfl (cell_one_new _ _ _) (by simp [Value.oneCell']) (by unfold maxLen; omega) (by omega) (by simp) ?_; intro vw' w2 hown g2 hnil hat; obtain ⟨a6, c6, e6⟩ := own_shape hown; subst e6; have hB2 := (g2.block bd (by have := Blk.lt hB1; simp; omega) (fun e => hbw e.symm)).trans (Blk.alloc hB1 _); have c5 : w2.cell? ⟨bd, 3, none⟩ = some R.vw := Blk.cell hB2 3; have f5 : w2.frozen? ⟨bd, 3, none⟩ = false := Blk.frozen hB2 3))
    | go_in)
  go_end0
  exact FIN.out _ _ _ hm g1 hown g2 (by simpa using hat)
set_option maxHeartbeats 1600000 in
theorem fs_change_ren (h : DRep0 w base fp bd R S) (hw : base ≤ w.heap.size) (hl : S.now.length < 1000000) (hl2 : R.wv.length < 1000000) {q1 q2 q3 f : Nat} {n to : Int} (b1 : Blk w q1 #[.int .i64 n] 3) (b2 : Blk w q2 #[.pointer (some ⟨R.fb f, 0, none⟩)] 62) (b3 : Blk w q3 #[.int .i64 to] 3) (hn : (Lit.int .i64 n).wf = true) (ht : (Lit.int .i64 to).wf = true) (f1 : fp q1) (f2 : fp q2) (f3 : fp q3) (hf : f < S.many) :
    Calls Try.prog 29 #[.pointer (some ⟨bd, 0, none⟩), .func (.func 37) #[] #[.pointer (some ⟨q1, 0, none⟩), .pointer (some ⟨q2, 0, none⟩), .pointer (some ⟨q3, 0, none⟩)]] w (ChgP w base fp bd R S (.ren n f to) (.func (.func 37) #[] #[.pointer (some ⟨q1, 0, none⟩), .pointer (some ⟨q2, 0, none⟩), .pointer (some ⟨q3, 0, none⟩)])) := by
  obtain ⟨i0, hi, hz0, hz1, hz2⟩ := info_parts infoFn
  have FIN := Lib.hid (fun w1 w2 vw' => DRep0.change h hw (c := .ren n f to) (v := .func (.func 37) #[] #[.pointer (some ⟨q1, 0, none⟩), .pointer (some ⟨q2, 0, none⟩), .pointer (some ⟨q3, 0, none⟩)]) ⟨q1, q2, q3, rfl, b1, b2, b3, f1, f2, f3, hn, ht⟩ hf (w1 := w1) (w2 := w2) (vw' := vw'))
  have HN := Lib.hid h.parts.now
  have HW := Lib.hid h.parts.waits.own
  have hfr := h.blk.frozen 3
  have c2 : w.cell? ⟨bd, 2, none⟩ = some (.map (some R.bn)) := h.blk.cell 2
  have hB := Lib.hid h.blk
  have hne : some bd ≠ some R.bn := fun e => ownD_ne h.parts.now h.blk (Option.some.inj e).symm
  have hno : R.vw.ownBlock ≠ some R.bn := ownD_ne' h.parts.now h.parts.waits.own
  have hbw : R.vw.ownBlock ≠ some bd := own_blk_ne h.parts.waits.own h.blk (by decide)
  clear h
  go_enter Try.func29, Try.ntmps29
  go_wp2_with (first
    | (go_at_call 37; refine (fs_ren HN.out hl b1 b2 b3 hn ht).mono ?_; rintro e w1 ⟨rfl, hm, g1⟩; have hB1 := (g1.block bd hB.out.lt hne).trans hB.out; have c3 : w1.cell? ⟨bd, 3, none⟩ = some R.vw := Blk.cell hB1 3; have c30 := Lib.cell?_alloc_some (.cells #[.func (.func 37) #[] #[.pointer (some ⟨q1, 0, none⟩), .pointer (some ⟨q2, 0, none⟩), .pointer (some ⟨q3, 0, none⟩)]] 66) c3; have hf3 : w1.frozen? ⟨bd, 3, none⟩ = false := Blk.frozen hB1 3; have HW1 := Lib.hid (own_keeps HW.out ((Keeps.refl (fun q => q = R.bn) w).grown g1 (fun k e => .inl (Option.some.inj e).symm)) (fun q hq e => hno (e ▸ hq))))
    | (at_builtin; (refine wpList_append_own_at _ rfl _ _ 58 rfl 0 66 i0 .nilFunc 1 8 Try.underlying58 hi hz0 hz1 hz2 rfl (by decide) R.vw R.wv.length R.wv rfl (HW1.out.alloc _) ⟨w1.heap.size, 0, none⟩ 1 1 [.func (.func 37) #[] #[.pointer (some ⟨q1, 0, none⟩), .pointer (some ⟨q2, 0, none⟩), .pointer (some ⟨q3, 0, none⟩)]] rfl rfl (cell_one_new _ _ _) (by simp [Value.oneCell']) (by unfold maxLen; omega) (by omega) (by simp) ?_; intro vw' w2 hown g2 hnil hat; obtain ⟨a6, c6, e6⟩ := own_shape hown; subst e6; have hB2 := (g2.block bd (by have := Blk.lt hB1; simp; omega) (fun e => hbw e.symm)).trans (Blk.alloc hB1 _); have c5 : w2.cell? ⟨bd, 3, none⟩ = some R.vw := Blk.cell hB2 3; have f5 : w2.frozen? ⟨bd, 3, none⟩ = false := Blk.frozen hB2 3))
    | go_in)
  go_end0
  exact FIN.out _ _ _ hm g1 hown g2 (by simpa using hat)
set_option maxHeartbeats 1600000 in
theorem fs_change_rem (h : DRep0 w base fp bd R S) (hw : base ≤ w.heap.size) (hl : S.now.length < 1000000) (hl2 : R.wv.length < 1000000) {q1 : Nat} {n : Int} (b1 : Blk w q1 #[.int .i64 n] 3) (hn : (Lit.int .i64 n).wf = true) (f1 : fp q1) :
    Calls Try.prog 29 #[.pointer (some ⟨bd, 0, none⟩), .func (.func 38) #[] #[.pointer (some ⟨q1, 0, none⟩)]] w (ChgP w base fp bd R S (.rem n) (.func (.func 38) #[] #[.pointer (some ⟨q1, 0, none⟩)])) := by
  obtain ⟨i0, hi, hz0, hz1, hz2⟩ := info_parts infoFn
  have FIN := Lib.hid (fun w1 w2 vw' => DRep0.change h hw (c := .rem n) (v := .func (.func 38) #[] #[.pointer (some ⟨q1, 0, none⟩)]) ⟨q1, rfl, b1, f1, hn⟩ trivial (w1 := w1) (w2 := w2) (vw' := vw'))
  have HN := Lib.hid h.parts.now
  have HW := Lib.hid h.parts.waits.own
  have hfr := h.blk.frozen 3
  have c2 : w.cell? ⟨bd, 2, none⟩ = some (.map (some R.bn)) := h.blk.cell 2
  have hB := Lib.hid h.blk
  have hne : some bd ≠ some R.bn := fun e => ownD_ne h.parts.now h.blk (Option.some.inj e).symm
  have hno : R.vw.ownBlock ≠ some R.bn := ownD_ne' h.parts.now h.parts.waits.own
  have hbw : R.vw.ownBlock ≠ some bd := own_blk_ne h.parts.waits.own h.blk (by decide)
  clear h
  go_enter Try.func29, Try.ntmps29
  go_wp2_with (first
    | (go_at_call 38; refine (fs_rem HN.out b1 hn).mono ?_; rintro e w1 ⟨rfl, hm, g1⟩; have hB1 := (g1.block bd hB.out.lt hne).trans hB.out; have c3 : w1.cell? ⟨bd, 3, none⟩ = some R.vw := Blk.cell hB1 3; have c30 := Lib.cell?_alloc_some (.cells #[.func (.func 38) #[] #[.pointer (some ⟨q1, 0, none⟩)]] 66) c3; have hf3 : w1.frozen? ⟨bd, 3, none⟩ = false := Blk.frozen hB1 3; have HW1 := Lib.hid (own_keeps HW.out ((Keeps.refl (fun q => q = R.bn) w).grown g1 (fun k e => .inl (Option.some.inj e).symm)) (fun q hq e => hno (e ▸ hq))))
    | (at_builtin; (refine wpList_append_own_at _ rfl _ _ 58 rfl 0 66 i0 .nilFunc 1 8 Try.underlying58 hi hz0 hz1 hz2 rfl (by decide) R.vw R.wv.length R.wv rfl (HW1.out.alloc _) ⟨w1.heap.size, 0, none⟩ 1 1 [.func (.func 38) #[] #[.pointer (some ⟨q1, 0, none⟩)]] rfl rfl (cell_one_new _ _ _) (by simp [Value.oneCell']) (by unfold maxLen; omega) (by omega) (by simp) ?_; intro vw' w2 hown g2 hnil hat; obtain ⟨a6, c6, e6⟩ := own_shape hown; subst e6; have hB2 := (g2.block bd (by have := Blk.lt hB1; simp; omega) (fun e => hbw e.symm)).trans (Blk.alloc hB1 _); have c5 : w2.cell? ⟨bd, 3, none⟩ = some R.vw := Blk.cell hB2 3; have f5 : w2.frozen? ⟨bd, 3, none⟩ = false := Blk.frozen hB2 3))
    | go_in)
  go_end0
  exact FIN.out _ _ _ hm g1 hown g2 (by simpa using hat)
end
end Go.Proofs.Ytpckjinlopmbcaa
