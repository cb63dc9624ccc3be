/-
  Package objs: the walk of Fold.
-/
import Derived.Test.YtaoagaokocnehaaFoldP
import Derived.Deep.DeepCutAuto
import Derived.Deep.RegionLaw
import Derived.Deep.AppendLies
namespace Go.Proofs.Ytaoagaokocnehaa
set_option linter.unusedVariables false
set_option linter.unusedSimpArgs false
open Go.RowKit

set_option maxRecDepth 100000 in
set_option maxHeartbeats 6400000 in
theorem o_fold {w : World} {vl : Value} (s : St) (a1 : Option Addr) (len1 cap1 : Nat) (f : Nat → Nat → Int) (hx : Rd w vl s.L) (hl : s.L.length ≤ 300) (hv : IsOps w a1 len1 f 3) (hl1 : len1 ≤ 1099511627776) :
    Calls Try.prog 17 #[.agg #[.int .i64 s.kind, vl, .bool s.isSealed, .int .i64 s.to], .slice a1 len1 cap1] w (FoldP w (foldS s (opL f len1))) := by
  obtain ⟨i0, hi, hz0, hz1, hz2⟩ := info_parts infoInt
  obtain ⟨ki, L, b, t⟩ := s
  simp only at hx hl ⊢
  have H0 := Lib.hid (FoldRel.start (w := w) (v := vl) ⟨ki, L, b, t⟩ hx)
  have HL := Lib.hid (fun k => fold_300 (opL f k) ⟨ki, L, b, t⟩ hl)
  have HV := Lib.hid hv
  obtain ⟨a, c, rfl, _⟩ := hx
  clear hv hl
  go_enter Try.func17, Try.ntmps17
  go_wp2_with fail
  go_loopw [6, 13] (fun o i wr => ∃ k : Nat, k ≤ len1 ∧ i = .int .i64 k ∧ FoldRel w (foldS ⟨ki, L, b, t⟩ (opL f k)) o wr) (fun _ i _ => len1 - (intOf i).toNat)
  case atStart => exact ⟨0, Nat.zero_le _, rfl, H0.out⟩
  case round =>
    obtain ⟨k, hk, rfl, hrel⟩ := hrel
    clear H0
    have hlk := HL.out k
    have hll : (foldS ⟨ki, L, b, t⟩ (opL f k)).2.length = k := by rw [foldS_length, opL_length]
    by_cases hkl : k < len1
    · obtain ⟨bb, o, rfl, hb, hcells⟩ := HV.out (by omega)
      have hc0 := hcells k 0 hkl (by omega)
      have hc1 := hcells k 1 hkl (by omega)
      have hc2 := hcells k 2 hkl (by omega)
      rw [Nat.add_zero] at hc0
      rw [← hrel.1.cell (p := ⟨bb, o + k * 3, none⟩) hb] at hc0
      rw [← hrel.1.cell (p := ⟨bb, o + k * 3 + 1, none⟩) hb] at hc1
      rw [← hrel.1.cell (p := ⟨bb, o + k * 3 + 2, none⟩) hb] at hc2
      have hbw : bb < wr.heap.size := Nat.lt_of_lt_of_le hb hrel.1.size
      have hend : foldS ⟨ki, L, b, t⟩ (opL f (k + 1)) = ((stepS (foldS ⟨ki, L, b, t⟩ (opL f k)).1 ⟨f k 0, f k 1, f k 2⟩).1, (foldS ⟨ki, L, b, t⟩ (opL f k)).2 ++ [(stepS (foldS ⟨ki, L, b, t⟩ (opL f k)).1 ⟨f k 0, f k 1, f k 2⟩).2]) := by
        rw [opL_succ, foldS_snoc]
      have hS := fun W v (hx : Rd W v (foldS ⟨ki, L, b, t⟩ (opL f k)).1.L) => o_step (w := W) (vl := v) (foldS ⟨ki, L, b, t⟩ (opL f k)).1 ⟨f k 0, f k 1, f k 2⟩ hx (by omega)
      have HEND := Lib.hid hend
      clear hend hcells
      generalize foldS ⟨ki, L, b, t⟩ (opL f k) = r at *
      obtain ⟨⟨rk, rL, rb, rt⟩, ol⟩ := r
      simp only at hS HEND hlk hll
      generalize hr2 : stepS ⟨rk, rL, rb, rt⟩ ⟨f k 0, f k 1, f k 2⟩ = r2 at *
      clear hr2
      obtain ⟨⟨tk, tL, tb, tt⟩, n⟩ := r2
      simp only at HEND
      generalize f k 0 = co at *
      generalize f k 1 = oa at *
      generalize f k 2 = ob at *
      obtain ⟨ar, cr, ao, co', rfl, ⟨q0, q1, q2, q3⟩, ⟨qf0, qf1, qf2, qf3⟩, hlt, hrd, hheld⟩ := hrel.open
      simp only at q0 q1 q2 q3 hrd hheld
      rw [hll] at hheld hrel
      have HS := fun W v hx => Lib.hid (hS W v hx)
      have HREL := Lib.hid hrel
      have HRD := Lib.hid hrd
      have HH := Lib.hid hheld
      have HLL := Lib.hid hll
      clear hS hrel hrd hheld hlk
      rw [hll]
      go_wp2_with fail
      have hop := (Below.refl wr.heap.size wr).alloc (Nat.le_refl _) (.cells #[.int .i64 co, .int .i64 oa, .int .i64 ob] 26)
      refine (HS _ _ (HRD.out.below hop (Nat.le_refl _))).out.mono ?_
      rintro e w4 ⟨v4, rfl, hrd4, hb4, hor4⟩
      obtain ⟨a4, c4, rfl, _⟩ := id hrd4
      have hmid := FoldRel.mid (.cells #[.int .i64 tk, .slice a4 tL.length c4, .bool tb, .int .i64 tt] 24) HREL.out HH.out hop hrd4 hb4 hor4
      obtain ⟨cs, hcs, hbx⟩ := hmid.box
      obtain ⟨u0, u1, u2, u3, rfl⟩ : ∃ u0 u1 u2 u3, cs = #[u0, u1, u2, u3] := by
        obtain ⟨l⟩ := cs
        match l, hcs with
        | [u0, u1, u2, u3], _ => exact ⟨u0, u1, u2, u3, rfl⟩
      have hlt4 : w.heap.size < w4.heap.size := by have := hop.size; have := hb4.size; simp only [World.size_alloc] at *; omega
      have hN := (Below.refl w4.heap.size w4).alloc (Nat.le_refl _) (.cells #[.int .i64 tk, .slice a4 tL.length c4, .bool tb, .int .i64 tt] 24)
      have x0 := (hN.cell (p := ⟨w.heap.size, 0, none⟩) hlt4).symm.trans (hbx.cell 0)
      have x1 := (hN.cell (p := ⟨w.heap.size, 1, none⟩) hlt4).symm.trans (hbx.cell 1)
      have x2 := (hN.cell (p := ⟨w.heap.size, 2, none⟩) hlt4).symm.trans (hbx.cell 2)
      have x3 := (hN.cell (p := ⟨w.heap.size, 3, none⟩) hlt4).symm.trans (hbx.cell 3)
      have xf0 := (hN.frozen (p := ⟨w.heap.size, 0, none⟩) hlt4).symm.trans (hbx.frozen 0)
      have xf1 := (hN.frozen (p := ⟨w.heap.size, 1, none⟩) hlt4).symm.trans (hbx.frozen 1)
      have xf2 := (hN.frozen (p := ⟨w.heap.size, 2, none⟩) hlt4).symm.trans (hbx.frozen 2)
      have xf3 := (hN.frozen (p := ⟨w.heap.size, 3, none⟩) hlt4).symm.trans (hbx.frozen 3)
      simp at x0 x1 x2 x3
      have HM := Lib.hid hmid
      have HBX := Lib.hid hbx
      have HBN := Lib.hid (Blk.new w4 #[.int .i64 tk, .slice a4 tL.length c4, .bool tb, .int .i64 tt] 24)
      clear hop hrd4 hb4 hor4 hmid hbx hN
      have hnew : ∀ (j : Nat) (u : Value), [Value.int .i64 n][j]? = some u → ((w4.alloc (.cells #[.int .i64 tk, .slice a4 tL.length c4, .bool tb, .int .i64 tt] 24)).alloc (.cells #[.int .i64 n] 3)).cell? ((⟨w4.heap.size + 1, 0, none⟩ : Addr).add j) = some u := by
        have := cell_one_new (w4.alloc (.cells #[.int .i64 tk, .slice a4 tL.length c4, .bool tb, .int .i64 tt] 24)) (.int .i64 n) 3
        rwa [World.size_alloc] at this
      have HNEW := Lib.hid hnew
      clear hnew
      have hone : ol.length ≤ 1099511627776 := by omega
      have hk48 : k ≤ 1099511627776 := by omega
      go_wp2_with fail
      go_region_law (first | (refine step_append_lies _ rfl (.tmp 24) (.tmp 26) 22 rfl 0 3 i0 (.int .i64 0) 1 8 Try.underlying22 hi hz0 hz1 hz2 rfl (by decide) (.slice ao k co') k (ints ol) (by simp [Act.eval, Act.put]) (own_keeps (F := fun _ => False) (HLL.out ▸ HM.out.own) ((Keeps.refl _ _).alloc _).drew (by simp)) ⟨w4.heap.size + 1, 0, none⟩ 1 1 [.int .i64 n] (by simp [Act.eval, Act.put]) (by simp) (fun j u hj => by simpa using HNEW.out j u hj) (by simp [Value.oneCell']) (by omega) (by simp only [maxLen]; omega) (by omega) (Nat.zero_le _) (w4.heap.size + 1 + 1) (by simp) ?_; intro g cap w5 hown5 hgrow hat hlt5; have k5 : Keeps (fun q => (Value.slice ao k co').ownBlock = some q) (w4.alloc (.cells #[.int .i64 tk, .slice a4 tL.length c4, .bool tb, .int .i64 tt] 24)) w5 := (((Keeps.refl _ _).alloc _).drew.grown hgrow (fun k hk => .inl hk)); have b5 := HBX.out.keeps k5 (own_blk_ne HM.out.own HBX.out (by decide)); have z0 := b5.cell 0; have z1 := b5.cell 1; have z2 := b5.cell 2; have z3 := b5.cell 3; have zf0 := b5.frozen 0; have zf1 := b5.frozen 1; have zf2 := b5.frozen 2; have zf3 := b5.frozen 3; simp at z0 z1 z2 z3; have bn := HBN.out.keeps k5 (own_blk_ne HM.out.own HBN.out (by decide)); have y0 := bn.cell 0; have y1 := bn.cell 1; have y2 := bn.cell 2; have y3 := bn.cell 3; simp at y0 y1 y2 y3; have K5 := Lib.hid k5; have B5 := Lib.hid b5; have HO5 := Lib.hid hown5; have HAT := Lib.hid hat; clear k5 b5 bn hown5 hgrow hat))
      all_goals
        go_wp2_with fail
        go_roundw
        case rel =>
          refine ⟨k + 1, by omega, by go_num, ?_⟩
          rw [HEND.out]
          have e := HLL.out
          subst e
          have kS := ((((K5.out.mono (G := fun q => q = w.heap.size ∨ (Value.slice ao ol.length co').ownBlock = some q) (fun q h => .inr h)).set w.heap.size 0 (.inl (.inl rfl)) (.int .i64 tk)).set w.heap.size 1 (.inl (.inl rfl)) (.slice a4 tL.length c4)).set w.heap.size 2 (.inl (.inl rfl)) (.bool tb)).set w.heap.size 3 (.inl (.inl rfl)) (.int .i64 tt)
          have k6 := ((((Keeps.refl (fun q => q = w.heap.size) w5).set w.heap.size 0 (.inl rfl) (.int .i64 tk)).set w.heap.size 1 (.inl rfl) (.slice a4 tL.length c4)).set w.heap.size 2 (.inl rfl) (.bool tb)).set w.heap.size 3 (.inl rfl) (.int .i64 tt)
          refine Mid.end HM.out kS ((((B5.out.set 0 _).set 1 _).set 2 _).set 3 _) (own_keeps HO5.out k6 (fun q hq e => own_blk_ne HO5.out B5.out (by decide) (e ▸ hq))) (fun q hq => ?_)
          simp only [Value.ownBlock, Option.some.injEq] at hq
          subst hq
          rcases HAT.out with h | h
          · exact .inl h
          · exact .inr (by rw [World.size_alloc]; omega)
        case measure => simp [intOf]; omega
    · obtain rfl : k = len1 := by omega
      generalize foldS ⟨ki, L, b, t⟩ (opL f k) = r at *
      obtain ⟨⟨rk, rL, rb, rt⟩, ol⟩ := r
      simp only at hlk hll
      obtain ⟨ar, cr, ao, co', rfl, ⟨q0, q1, q2, q3⟩, ⟨qf0, qf1, qf2, qf3⟩, hlt, hrd, hheld⟩ := hrel.open
      simp only at q0 q1 q2 q3 hrd hheld
      have hr := hrel.2.2.2.1
      have r0 := hr.cell 0
      have r1 := hr.cell 1
      have r2 := hr.cell 2
      have r3 := hr.cell 3
      have rf0 := hr.frozen 0
      have rf1 := hr.frozen 1
      have rf2 := hr.frozen 2
      have rf3 := hr.frozen 3
      simp at r0 r1 r2 r3
      have HT := Lib.hid (hrel.told hheld (.int .i64 rk) (.slice ar rL.length cr) (.bool rb) (.int .i64 rt))
      clear hr hrel hheld hrd hlk hll
      go_wp2_with fail
      refine bodyPost_ret (v := .tuple #[.agg #[.int .i64 rk, .slice ar rL.length cr, .bool rb, .int .i64 rt], .slice ao ol.length co']) ?_ rfl HT.out
      simp [results, Try.results17, go_sem, r0, r1, r2, r3]
end Go.Proofs.Ytaoagaokocnehaa
