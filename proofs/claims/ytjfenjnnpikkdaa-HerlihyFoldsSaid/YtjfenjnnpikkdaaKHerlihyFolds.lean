/-
  Layer 15, HerlihyFolds: whatever the state, the processes and the script, the law returns true, and the arguments read as they did. No condition.
-/
import Derived.Test.YtjfenjnnpikkdaaRows
import Derived.WalkKit
import Derived.ProofKit
import Derived.OpenShut
import Derived.ShutString
import Derived.ChangeOld
import Derived.Below
import Derived.Test.YtjfenjnnpikkdaaKd
import Derived.Test.YtjfenjnnpikkdaaKf
import Derived.Test.YtjfenjnnpikkdaaKg
import Derived.Test.YtjfenjnnpikkdaaKk
import Derived.Test.YtjfenjnnpikkdaaKka
import Derived.Test.YtjfenjnnpikkdaaKkb
set_option linter.unusedVariables false
set_option linter.unusedSimpArgs false
namespace Go.Proofs.Ytjfenjnnpikkdaa
set_option maxRecDepth 100000
open Go.RowKit
open Go.Proofs.YtjfenjnnpikkdaaW.PrintLast

theorem sameB_self (s : St) : sameB s s = true := by simp [sameB]
theorem take_snoc {α : Type} {l : List α} {i : Nat} {r : α} (h : l[i]? = some r) : l.take (i + 1) = l.take i ++ [r] := by
  obtain ⟨hl, e⟩ := List.getElem?_eq_some_iff.1 h
  rw [List.take_succ_eq_append_getElem hl, e]
/-- The memory of a fold of a log: B the boxed state, M the counts, both behind w6. -/
structure FoldM (w w6 : World) (n : Nat) (st : St) (l : List Rec) (vs : Value) (wr : World) : Prop where
  below : Below w6.heap.size w6 wr
  size : w6.heap.size + 2 ≤ wr.heap.size
  box : Blk wr w6.heap.size #[.int .i64 st.kind, vs, .bool st.isSealed, .int .i64 st.to] 24
  many : Own wr 3 1 (.slice (some ⟨w6.heap.size + 1, 0, none⟩) n n) n (rangeI n fun q => (countL l q : Int))
  rd : Rd wr vs st.L
  own : 0 < st.L.length → ∀ k, vs.ownBlock = some k → k < w.heap.size ∨ w6.heap.size + 2 ≤ k
theorem rd_keeps' {F : Nat → Prop} {w w' : World} {v : Value} {xs : List Int} (h : Rd w v xs) (k : Keeps F w w') (hd : 0 < xs.length → ∀ b, v.ownBlock = some b → ¬ F b) : Rd w' v xs := by
  by_cases h0 : 0 < xs.length
  · exact h.keeps k (hd h0)
  · obtain ⟨a, c, rfl, h1, h2, h3⟩ := h
    exact ⟨a, c, rfl, h1, h2, fun hl => absurd hl h0⟩
theorem rd_len2 {w w' : World} {v : Value} {xs ys : List Int} (h : Rd w v xs) (h' : Rd w' v ys) : xs.length = ys.length := by
  obtain ⟨a, c, rfl, _⟩ := h
  obtain ⟨a', c', e, _⟩ := h'
  injection e
theorem rd_lt {w : World} {v : Value} {xs : List Int} (h : Rd w v xs) (h0 : 0 < xs.length) {k : Nat} (hk : v.ownBlock = some k) : k < w.heap.size := by
  obtain ⟨a, c, rfl, h1, h2, h3⟩ := h
  obtain ⟨b, o, rfl, hb, _⟩ := h3 h0
  simp only [Value.ownBlock, Option.some.injEq] at hk
  omega

set_option maxRecDepth 100000 in
set_option maxHeartbeats 12800000 in
theorem he_folds {w : World} {vl : Value} (s : St) (hx : Rd w vl s.L) (n : Int) (a : Option Addr) (len cap : Nat) (f : Nat → Nat → Int) (hv : IsOps w a len f 5) (hlc : len ≤ cap) (hcm : cap ≤ 9223372036854775807) :
    Calls Try.prog 8 #[stV s vl, .int .i64 n, .slice a len cap] w (Tells w true) := by
  obtain ⟨al, cl, rfl, hcl, hcm2, _⟩ := id hx
  have hb1 : Below w.heap.size w (w.alloc (.cells #[.int .i64 s.kind, .slice al s.L.length cl, .bool s.isSealed, .int .i64 s.to] 24)) := (Below.refl _ _).alloc (Nat.le_refl _) _
  have hS1 := Blk.new w #[.int .i64 s.kind, .slice al s.L.length cl, .bool s.isSealed, .int .i64 s.to] 24
  have HB1 := Lib.hid hb1
  have HX := Lib.hid hx
  have HV := Lib.hid hv
  clear hx hb1 hv
  by_cases hst : mayB s = true ∧ 1 ≤ n ∧ n ≤ 64
  · obtain ⟨n, rfl⟩ := Int.eq_ofNat_of_zero_le (show 0 ≤ n by omega)
    have hlen := may_len hst.1
    have hn1 : 0 < n ∧ n ≤ 64 := by omega
    by_cases hok : s.L.length ≤ 300 ∧ len ≤ 1500
    · skip
      have hmk := run_make_row' (P := Try.prog) 22 3 (.int .i64 0) 8 Try.underlying22 infoInt rfl .i64 .i64 n (by omega) (by omega)
      have FW := fun W hx => Lib.hid (he_few (w := W) (vl := .slice al s.L.length cl) s hx a len cap)
      rw [decide_eq_true hok] at FW
      have NW := fun W hx => Lib.hid (he_start (w := W) (vl := .slice al s.L.length cl) s hx (by omega) n hst.1 (by omega) (by omega))
      go_enter Try.func8, Try.ntmps8
      go_wp2_with (first
        | (go_at_call 26; refine (he_up _).mono ?_; rintro e w2 ⟨rfl, hb2⟩; have hS2 := hS1.below hb2 hS1.lt; have HB2 := Lib.hid (HB1.out.trans (hb2.mono (by simp))); have c0 : w2.cell? ⟨w.heap.size, 0, none⟩ = some (.int .i64 s.kind) := hS2.cell 0; have c1 : w2.cell? ⟨w.heap.size, 1, none⟩ = some (.slice al s.L.length cl) := hS2.cell 1; have c2 : w2.cell? ⟨w.heap.size, 2, none⟩ = some (.bool s.isSealed) := hS2.cell 2; have c3 : w2.cell? ⟨w.heap.size, 3, none⟩ = some (.int .i64 s.to) := hS2.cell 3; clear hb2)
        | (go_at_call 27; refine (FW _ (HX.out.below HB2.out (Nat.le_refl _))).out.mono ?_; rintro e w3 ⟨rfl, hb3⟩; have hS3 := hS2.below hb3 hS2.lt; have HB3 := Lib.hid (HB2.out.trans (hb3.mono HB2.out.size)); clear c0 c1 c2 c3; have c0 : w3.cell? ⟨w.heap.size, 0, none⟩ = some (.int .i64 s.kind) := hS3.cell 0; have c1 : w3.cell? ⟨w.heap.size, 1, none⟩ = some (.slice al s.L.length cl) := hS3.cell 1; have c2 : w3.cell? ⟨w.heap.size, 2, none⟩ = some (.bool s.isSealed) := hS3.cell 2; have c3 : w3.cell? ⟨w.heap.size, 3, none⟩ = some (.int .i64 s.to) := hS3.cell 3; clear hb3)
        | (go_at_call 28; refine (NW _ (HX.out.below HB3.out (Nat.le_refl _))).out.mono ?_; rintro e w4 ⟨b, fp, rfl, hR4, hb4⟩; have HB4 := Lib.hid (HB3.out.trans (hb4.mono HB3.out.size)); have hb4s := hb4.size; have hS4 := hS3.below hb4 hS3.lt; have HS4 := Lib.hid hS4; clear hS4; clear hb4))
      have I := heIf n s hn1
      have hz := he_zero n s (by omega)
      have hV4 := HV.out.mono HB4.out (Nat.le_refl _)
      have hab : 0 < len → ∀ ba oa, a = some ⟨ba, oa, none⟩ → ba < w3.heap.size := fun h0 ba oa e => Nat.lt_of_lt_of_le (HV.out.lt (by omega) ba oa e) HB3.out.size
      have hbw : w3.heap.size ≤ w4.heap.size := hb4s
      have HR := Lib.hid (he_run I hR4 hz hbw a len cap f hV4 hab (by omega) (by omega))
      have HR4 := Lib.hid hR4
      have hfb : ∀ j, fp j → w3.heap.size ≤ j := fun j hj => (I.lt hR4 j hj).1
      have h34 := HB3.out.size
      have h03 : w.heap.size < w3.heap.size := hS3.lt
      have HRI := Lib.hid (hz.rinv.run (evAt f) len)
      clear hR4 hV4 hab c0 c1 c2 c3
      generalize runS (heLin n s) (evAt f) ⟨heZero n s, [], fun _ => 0⟩ len = R at *
      refine HR.out.mono ?_
      rintro e w5 ⟨v5, fp5, rfl, hE5, hO5, hf5, hn5⟩
      have HL := Lib.hid (I.log hE5.rep (by omega))
      have HE5 := Lib.hid hE5
      clear hE5 hO5 hf5 hn5 HR
      go_wp2_with (go_at_call 30; refine HL.out.mono ?_; rintro e w6 ⟨v6, rfl, hO6, hf6, fp6, hR6, hfp6, hn6, hK6⟩; have hE6 := HE5.out.post hR6 hfp6 hK6; have hl6m : ((heLin n s).log R.E).length ≤ 9223372036854775807 := (by obtain ⟨_, _, _, h1, h2⟩ := own_shape2 hO6; simp only [maxLen] at h2; omega); have hrd6 := RecRd.of hO6; obtain ⟨a6, c6, rfl⟩ := own_shape hO6; have hS6 := HS4.out.keeps hE6.keeps (fun h => by have := hfb _ h; omega); have c0 : w6.cell? ⟨w.heap.size, 0, none⟩ = some (.int .i64 s.kind) := hS6.cell 0; have c1 : w6.cell? ⟨w.heap.size, 1, none⟩ = some (.slice al s.L.length cl) := hS6.cell 1; have c2 : w6.cell? ⟨w.heap.size, 2, none⟩ = some (.bool s.isSealed) := hS6.cell 2; have c3 : w6.cell? ⟨w.heap.size, 3, none⟩ = some (.int .i64 s.to) := hS6.cell 3; have h06 := hS6.lt; have HE6 := Lib.hid hE6; have HRD6 := Lib.hid hrd6; have HR6 := Lib.hid hR6; clear hO6 hf6 hR6 hfp6 hK6 hn6 hE6 hrd6 HE5 HL hS6)
      have hB6 : Below w.heap.size w w6 := HB4.out.trans (HE6.out.keeps.below (fun j hj => Nat.le_trans h34 (hfb j hj)) HB4.out.size)
      have HB6 := Lib.hid hB6
      clear hB6 c0 c1 c2 c3 hmk
      have hok : LogOK n s ((heLin n s).log R.E) := (heLin n s).log_ok _ HRI.out.inv
      have HST := Lib.hid (fun (W : World) (hK : Keeps (fun k => w6.heap.size ≤ k) w6 W) => I.state (w := W) (I.keeps HR6.out hK (fun k hk => ⟨fun h => by have := (I.lt HR6.out k h).2; omega, by have := HB6.out.size; have := HE6.out.keeps.size; omega⟩)) (by omega))
      have hfl : ∀ k, fp6 k → w.heap.size ≤ k ∧ k < w6.heap.size := fun k hk => ⟨by have := (I.lt HR6.out k hk).1; omega, (I.lt HR6.out k hk).2⟩
      generalize hl : (heLin n s).log R.E = l at *
      have HOK := Lib.hid hok
      have HFL := Lib.hid hfl
      clear hok hfl
      go_loopw [14, 15, 16, 17] (fun iv _ _ _ wr => ∃ (i : Nat) (vs : Value), i ≤ l.length ∧ iv = .int .i64 i ∧ FoldM w w6 n (behind s (l.take i)) (l.take i) vs wr) (fun iv _ _ _ _ => l.length - (intOf iv).toNat)
      case atStart =>
        refine ⟨0, .slice al s.L.length cl, Nat.zero_le _, rfl, ((Below.refl _ _).alloc (Nat.le_refl _) _).alloc (by simp) _, by simp, (Blk.new w6 _ _).alloc _, ?_, (HX.out.below HB6.out (Nat.le_refl _)).below (((Below.refl _ _).alloc (Nat.le_refl _) _).alloc (by simp) _) (Nat.le_refl _), fun h0 k hk => .inl (rd_lt HX.out h0 hk)⟩
        have o2 := own_made (w6.alloc (.cells #[.int .i64 s.kind, .slice al s.L.length cl, .bool s.isSealed, .int .i64 s.to] 24)) 3 (.int .i64 0) n (by simp only [maxLen]; omega)
        rw [World.size_alloc, ← herangeI_const n (fun q => (countL ([] : List Rec) q : Int)) (fun q => rfl)] at o2
        exact o2
      case round =>
        obtain ⟨i, vs, hi, rfl, hM⟩ := hrel
        by_cases hlt : i < l.length
        · have d0 : decide ((i : Int) < l.length) = true := decide_eq_true (by omega)
          have i1 : (0 : Int) ≤ (i : Int) := by omega
          have i2 : (i : Int) < (l.length : Int) := by omega
          have i64k : IntKind.i64.wrap ((i : Int) + 1) = (i : Int) + 1 := IntWalk.i64_in _ (by omega)
          have hrdr := HRD6.out.keeps (Keeps.ofBelow (F := fun _ => False) hM.below) (fun _ _ h => h)
          obtain ⟨lb, lo, r, hr, rfl, hlb, l0, l1, l2, l3, l4, l5, l6⟩ := hrdr.cells hlt
          have hri : l[i]? = some r := by rw [hr, List.getD_eq_getElem?_getD, List.getElem?_eq_getElem hlt]; rfl
          obtain ⟨g1, g2, g3, g4⟩ := HOK.out.at i r hri
          have htk := take_snoc hri
          have hbh : behind s (l.take (i + 1)) = (stepS (behind s (l.take i)) r.op).1 := by rw [htk, behind_snoc]
          have hcn : ∀ q, countL (l.take (i + 1)) q = countL (l.take i) q + if r.proc = q then 1 else 0 := fun q => by rw [htk, countL_snoc]
          have hcl : countL (l.take i) r.proc ≤ i := Nat.le_trans (List.length_filter_le _ _) (by rw [List.length_take]; omega)
          obtain ⟨ix, rp, rs, ⟨oc, ox, oy⟩, rn⟩ := r
          simp only at l0 l1 l2 l3 l4 l5 l6 g1 g2 g3 g4 hbh hcn hcl
          subst g1 g3
          have HBH := Lib.hid hbh
          have HCN := Lib.hid hcn
          have HHR := Lib.hid hri
          clear hbh hcn htk hr hri hrdr
          generalize hst : behind s (l.take ix) = st at *
          obtain ⟨cnt, hct⟩ : ∃ cnt, countL (l.take ix) rp = cnt := ⟨_, rfl⟩
          rw [hct] at l2 hcl
          rw [show ((cnt + 1 : Nat) : Int) = (cnt : Int) + 1 by omega] at l2
          have HS := fun (W : World) (hW : Rd W vs st.L) => Lib.hid (r_step st ⟨oc, ox, oy⟩ hW)
          obtain ⟨q, hq⟩ : ∃ q, stepS st ⟨oc, ox, oy⟩ = q := ⟨_, rfl⟩
          rw [hq] at g4 HS HBH
          obtain ⟨⟨k', L', b', t'⟩, n'⟩ := q
          simp only at g4 HBH
          subst g4
          have bx := hM.box
          have b0 := bx.cell 0
          have b1 := bx.cell 1
          have b2 := bx.cell 2
          have b3 := bx.cell 3
          simp at b0 b1 b2 b3
          have hsz := hM.size
          have hbl : w6.heap.size < wr.heap.size := by omega
          have HM := Lib.hid hM
          have hrd1 : Rd (wr.alloc (.cells #[.int .i64 ix, .int .i64 rp, .int .i64 ((cnt : Int) + 1), .int .i64 oc, .int .i64 ox, .int .i64 oy, .int .i64 rn] 39)) vs st.L := hM.rd.below (Below.refl wr.heap.size wr |>.alloc (Nat.le_refl _) _) (Nat.le_refl _)
          have hbR := Blk.new wr #[.int .i64 ix, .int .i64 rp, .int .i64 ((cnt : Int) + 1), .int .i64 oc, .int .i64 ox, .int .i64 oy, .int .i64 rn] 39
          have hbS := bx.alloc (.cells #[.int .i64 ix, .int .i64 rp, .int .i64 ((cnt : Int) + 1), .int .i64 oc, .int .i64 ox, .int .i64 oy, .int .i64 rn] 39)
          obtain ⟨aS, cS, hvs, -⟩ := id hM.rd
          clear hM hq bx
          subst hvs
          go_wp2_with fail
          refine (HS _ hrd1).out.mono ?_
          rintro e w2 ⟨v2, rfl, rd2, hb2, own2⟩
          obtain ⟨a2, c2, rfl, -⟩ := id rd2
          have hbS2 := hbS.below hb2 hbS.lt
          have hbR2 := hbR.below hb2 hbR.lt
          have hmn : Own w2 3 1 (.slice (some ⟨w6.heap.size + 1, 0, none⟩) n n) n (rangeI n fun q => (countL (l.take ix) q : Int)) := own_keeps (HM.out.many.alloc _) (Keeps.ofBelow (F := fun _ => False) hb2) (fun _ _ h => h)
          have hrq : rp < n := g2
          have zm0 : w2.cell? ⟨w6.heap.size + 1, rp, none⟩ = some (.int .i64 cnt) := by
            rw [World.ownsRow.cellAt hmn rp (by omega), ints_get _ _ (by simpa using hrq)]
            simp [hrq, hct]
          have hsz2 : wr.heap.size + 1 ≤ w2.heap.size := by simpa using hb2.size
          have s0 := hbS2.cell 0
          have s1 := hbS2.cell 1
          have s2 := hbS2.cell 2
          have s3 := hbS2.cell 3
          have f0 := hbS2.frozen 0
          have f1 := hbS2.frozen 1
          have f2 := hbS2.frozen 2
          have f3 := hbS2.frozen 3
          have n1' : w6.heap.size < w2.heap.size := by omega
          have n2' : w6.heap.size ≠ w2.heap.size := by omega
          have n3' : w2.heap.size ≠ w6.heap.size := by omega
          simp at s0 s1 s2 s3
          have HBS := Lib.hid hbS2
          have HBR := Lib.hid hbR2
          have HMN := Lib.hid hmn
          have HRD2 := Lib.hid rd2
          have HB2 := Lib.hid hb2
          have HO2 := Lib.hid own2
          clear hbS2 hbR2 hmn rd2 hb2 own2 hbS hbR hrd1 b0 b1 b2 b3 l0 l1 l2 l3 l4 l5 l6
          go_wp2_with fail
          have kW : Keeps (fun k => k = w6.heap.size) w2 (((((w2.setCell ⟨w6.heap.size, 0, none⟩ (.int .i64 k')).setCell ⟨w6.heap.size, 1, none⟩ (.slice a2 L'.length c2)).setCell ⟨w6.heap.size, 2, none⟩ (.bool b')).setCell ⟨w6.heap.size, 3, none⟩ (.int .i64 t')).alloc (.cells #[.int .i64 k', .slice a2 L'.length c2, .bool b', .int .i64 t'] 24)) := (res_keeps w2 w6.heap.size _ _ _ _).alloc _
          have bx3 : Blk (((((w2.setCell ⟨w6.heap.size, 0, none⟩ (.int .i64 k')).setCell ⟨w6.heap.size, 1, none⟩ (.slice a2 L'.length c2)).setCell ⟨w6.heap.size, 2, none⟩ (.bool b')).setCell ⟨w6.heap.size, 3, none⟩ (.int .i64 t')).alloc (.cells #[.int .i64 k', .slice a2 L'.length c2, .bool b', .int .i64 t'] 24)) w6.heap.size #[.int .i64 k', .slice a2 L'.length c2, .bool b', .int .i64 t'] 24 := ((((HBS.out.set 0 _).set 1 _).set 2 _).set 3 _).alloc _
          generalize ((((((w2.setCell ⟨w6.heap.size, 0, none⟩ (.int .i64 k')).setCell ⟨w6.heap.size, 1, none⟩ (.slice a2 L'.length c2)).setCell ⟨w6.heap.size, 2, none⟩ (.bool b')).setCell ⟨w6.heap.size, 3, none⟩ (.int .i64 t')).alloc (.cells #[.int .i64 k', .slice a2 L'.length c2, .bool b', .int .i64 t'] 24))) = w3' at *
          have hown2 : 0 < L'.length → ∀ k, (Value.slice a2 L'.length c2).ownBlock = some k → k < w.heap.size ∨ w6.heap.size + 2 ≤ k := by
            intro h0 k hk
            rcases HO2.out with e | h
            · have e' := rd_len2 (e ▸ HRD2.out) HM.out.rd
              rw [e] at hk
              exact HM.out.own (by omega) k hk
            · have := h k hk
              simp at this
              right; omega
          have hwne : ¬ wr.heap.size = w6.heap.size := by omega
          have q0 := HBR.out.cell 0
          have q1 := HBR.out.cell 1
          have q2 := HBR.out.cell 2
          have q6 := HBR.out.cell 6
          simp at q0 q1 q2 q6
          have z0 := kW.cellSome (p := ⟨wr.heap.size, 0, none⟩) hwne q0
          have z1 := kW.cellSome (p := ⟨wr.heap.size, 1, none⟩) hwne q1
          have z2 := kW.cellSome (p := ⟨wr.heap.size, 2, none⟩) hwne q2
          have z6 := kW.cellSome (p := ⟨wr.heap.size, 6, none⟩) hwne q6
          have zm := kW.cellSome (p := ⟨w6.heap.size + 1, rp, none⟩) (by simp) zm0
          have hbl3 : Below w6.heap.size w6 w3' := ((HM.out.below.alloc (by omega) _).trans (HB2.out.mono (by simp; omega))).trans (kW.below (by rintro k rfl; exact Nat.le_refl _) (by omega))
          have hmn3 := own_keeps HMN.out kW (fun j hj e => by simp only [Value.ownBlock, Option.some.injEq] at hj; omega)
          have hrd3 := rd_keeps' HRD2.out kW (fun h0 j hj e => by have := hown2 h0 j hj; omega)
          have hsz3 := kW.size
          have hmf : w3'.frozen? ⟨w6.heap.size + 1, rp, none⟩ = false := World.ownsRow.frozenAt hmn3 rp
          have r1 : (0 : Int) ≤ (rp : Int) := by omega
          have r2 : (rp : Int) < (n : Int) := by omega
          have d1 : decide ((rp : Int) < 0) = false := decide_eq_false (by omega)
          have d2 : decide ((n : Int) ≤ (rp : Int)) = false := decide_eq_false (by omega)
          have d3 : decide (n ≤ rp) = false := decide_eq_false (by omega)
          have d4 : ¬ n ≤ rp := by omega
          have w1' : IntKind.i64.wrap ((cnt : Int) + 1) = (cnt : Int) + 1 := IntWalk.i64_in _ (by omega)
          have w2' : Go.RowKit.wrap64 ((cnt : Int) + 1) = (cnt : Int) + 1 := by unfold Go.RowKit.wrap64; omega
          have HB3' := Lib.hid hbl3
          have HM3 := Lib.hid hmn3
          have HRD3 := Lib.hid hrd3
          have HBX := Lib.hid bx3
          have HOW := Lib.hid hown2
          clear q0 q1 q2 q6 kW bx3 hown2 zm0 hbl3 hmn3 hrd3 s0 s1 s2 s3 f0 f1 f2 f3 n1' n2' n3' HBS HBR HMN HRD2 HO2 HS HM
          refine start_ (n := 32) (S := fun w' => w'.cell? ⟨wr.heap.size, 0, none⟩ = some (.int .i64 ix) ∧ w'.cell? ⟨wr.heap.size, 1, none⟩ = some (.int .i64 rp) ∧ w'.cell? ⟨wr.heap.size, 2, none⟩ = some (.int .i64 ((cnt : Int) + 1)) ∧ w'.cell? ⟨wr.heap.size, 6, none⟩ = some (.int .i64 rn) ∧ w'.cell? ⟨w6.heap.size + 1, rp, none⟩ = some (.int .i64 cnt)) (ds := []) #[false, false, false, false, false, false, false, false, false, false, false, false, false, false, false, false, false, false, false, false, false, false, false, false, false, false, false, false, false, false, false, false] (by kernel_rfl) rfl rfl ⟨z0, z1, z2, z6, zm⟩ (fun hHeld => ?_)
          refine pure_ (i := 0) (N := some 71) (v := ?_) (a' := ?_) #[true, false, false, false, false, false, false, false, false, false, false, false, false, false, false, false, false, false, false, false, false, false, false, false, false, false, false, false, false, false, false, false] rfl rfl (by kernel_rfl) (fun _ _ _ h => h) (Or.inl ⟨by rfl, ?_⟩) ?_ ?_
          rotate_left
          · intro w'
            go_simp
            with_reducible rfl
          rotate_left
          · simp only [Act.put, nA, nB, nC, i64_w, i32_w]
            rfl
          refine pure_ (i := 2) (N := some 73) (v := ?_) (a' := ?_) #[true, false, true, false, false, false, false, false, false, false, false, false, false, false, false, false, false, false, false, false, false, false, false, false, false, false, false, false, false, false, false, false] rfl rfl (by kernel_rfl) (fun _ _ _ h => h) (Or.inl ⟨by rfl, ?_⟩) ?_ ?_
          rotate_left
          · intro w'
            go_simp
            with_reducible rfl
          rotate_left
          · simp only [Act.put, nA, nB, nC, i64_w, i32_w]
            rfl
          refine take_ (i := 1) (N := some 72) (v := ?_) (a' := ?_) #[true, true, true, false, false, false, false, false, false, false, false, false, false, false, false, false, false, false, false, false, false, false, false, false, false, false, false, false, false, false, false, false] rfl rfl (by kernel_rfl) (fun _ _ _ h => h) (Or.inl ⟨by rfl, ?_⟩) hHeld ?_ ?_
          rotate_left
          · rintro w' ⟨s0, s1, s2, s3, s4⟩
            go_simp
            with_reducible rfl
          rotate_left
          · simp only [Act.put, nA, nB, nC, i64_w, i32_w]
            rfl
          refine pure_ (i := 3) (N := some 74) (v := ?_) (a' := ?_) #[true, true, true, true, false, false, false, false, false, false, false, false, false, false, false, false, false, false, false, false, false, false, false, false, false, false, false, false, false, false, false, false] rfl rfl (by kernel_rfl) (fun _ _ _ h => h) (Or.inl ⟨by rfl, ?_⟩) ?_ ?_
          rotate_left
          · intro w'
            go_simp
            with_reducible rfl
          rotate_left
          · simp only [Act.put, nA, nB, nC, i64_w, i32_w]
            rfl
          refine pure_ (i := 4) (N := some 75) (v := ?_) (a' := ?_) #[true, true, true, true, true, false, false, false, false, false, false, false, false, false, false, false, false, false, false, false, false, false, false, false, false, false, false, false, false, false, false, false] rfl rfl (by kernel_rfl) (fun _ _ _ h => h) (Or.inl ⟨by rfl, ?_⟩) ?_ ?_
          rotate_left
          · intro w'
            go_simp
            with_reducible rfl
          rotate_left
          · simp only [Act.put, nA, nB, nC, i64_w, i32_w]
            rfl
          refine pure_ (i := 5) (N := some 76) (v := ?_) (a' := ?_) #[true, true, true, true, true, true, false, false, false, false, false, false, false, false, false, false, false, false, false, false, false, false, false, false, false, false, false, false, false, false, false, false] rfl rfl (by kernel_rfl) (fun _ _ _ h => h) (Or.inl ⟨by rfl, ?_⟩) ?_ ?_
          rotate_left
          · intro w'
            go_simp
            with_reducible rfl
          rotate_left
          · simp only [Act.put, nA, nB, nC, i64_w, i32_w]
            rfl
          refine take_ (i := 6) (N := some 77) (v := ?_) (a' := ?_) #[true, true, true, true, true, true, true, false, false, false, false, false, false, false, false, false, false, false, false, false, false, false, false, false, false, false, false, false, false, false, false, false] rfl rfl (by kernel_rfl) (fun _ _ _ h => h) (Or.inl ⟨by rfl, ?_⟩) hHeld ?_ ?_
          rotate_left
          · rintro w' ⟨s0, s1, s2, s3, s4⟩
            go_simp
            with_reducible rfl
          rotate_left
          · simp only [Act.put, nA, nB, nC, i64_w, i32_w]
            rfl
          refine pure_ (i := 7) (N := some 78) (v := ?_) (a' := ?_) #[true, true, true, true, true, true, true, true, false, false, false, false, false, false, false, false, false, false, false, false, false, false, false, false, false, false, false, false, false, false, false, false] rfl rfl (by kernel_rfl) (fun _ _ _ h => h) (Or.inl ⟨by rfl, ?_⟩) ?_ ?_
          rotate_left
          · intro w'
            go_simp
            with_reducible rfl
          rotate_left
          · simp only [Act.put, nA, nB, nC, i64_w, i32_w]
            rfl
          refine pure_ (i := 8) (N := some 79) (v := ?_) (a' := ?_) #[true, true, true, true, true, true, true, true, true, false, false, false, false, false, false, false, false, false, false, false, false, false, false, false, false, false, false, false, false, false, false, false] rfl rfl (by kernel_rfl) (fun _ _ _ h => h) (Or.inl ⟨by rfl, ?_⟩) ?_ ?_
          rotate_left
          · intro w'
            go_simp
            with_reducible rfl
          rotate_left
          · simp only [Act.put, nA, nB, nC, i64_w, i32_w]
            rfl
          refine pure_ (i := 9) (N := some 80) (v := ?_) (a' := ?_) #[true, true, true, true, true, true, true, true, true, true, false, false, false, false, false, false, false, false, false, false, false, false, false, false, false, false, false, false, false, false, false, false] rfl rfl (by kernel_rfl) (fun _ _ _ h => h) (Or.inl ⟨by rfl, ?_⟩) ?_ ?_
          rotate_left
          · intro w'
            go_simp
            with_reducible rfl
          rotate_left
          · simp only [Act.put, nA, nB, nC, i64_w, i32_w]
            rfl
          refine pure_ (i := 10) (N := some 81) (v := ?_) (a' := ?_) #[true, true, true, true, true, true, true, true, true, true, true, false, false, false, false, false, false, false, false, false, false, false, false, false, false, false, false, false, false, false, false, false] rfl rfl (by kernel_rfl) (fun _ _ _ h => h) (Or.inl ⟨by rfl, ?_⟩) ?_ ?_
          rotate_left
          · intro w'
            go_simp
            with_reducible rfl
          rotate_left
          · simp only [Act.put, nA, nB, nC, i64_w, i32_w]
            rfl
          refine pure_ (i := 12) (N := some 83) (v := ?_) (a' := ?_) #[true, true, true, true, true, true, true, true, true, true, true, false, true, false, false, false, false, false, false, false, false, false, false, false, false, false, false, false, false, false, false, false] rfl rfl (by kernel_rfl) (fun _ _ _ h => h) (Or.inl ⟨by rfl, ?_⟩) ?_ ?_
          rotate_left
          · intro w'
            go_simp
            with_reducible rfl
          rotate_left
          · simp only [Act.put, nA, nB, nC, i64_w, i32_w]
            rfl
          refine take_ (i := 11) (N := some 82) (v := ?_) (a' := ?_) #[true, true, true, true, true, true, true, true, true, true, true, true, true, false, false, false, false, false, false, false, false, false, false, false, false, false, false, false, false, false, false, false] rfl rfl (by kernel_rfl) (fun _ _ _ h => h) (Or.inl ⟨by rfl, ?_⟩) hHeld ?_ ?_
          rotate_left
          · rintro w' ⟨s0, s1, s2, s3, s4⟩
            go_simp
            with_reducible rfl
          rotate_left
          · simp only [Act.put, nA, nB, nC, i64_w, i32_w]
            rfl
          refine pure_ (i := 13) (N := some 84) (v := ?_) (a' := ?_) #[true, true, true, true, true, true, true, true, true, true, true, true, true, true, false, false, false, false, false, false, false, false, false, false, false, false, false, false, false, false, false, false] rfl rfl (by kernel_rfl) (fun _ _ _ h => h) (Or.inl ⟨by rfl, ?_⟩) ?_ ?_
          rotate_left
          · intro w'
            go_simp
            with_reducible rfl
          rotate_left
          · simp only [Act.put, nA, nB, nC, i64_w, i32_w]
            rfl
          refine pure_ (i := 14) (N := some 85) (v := ?_) (a' := ?_) #[true, true, true, true, true, true, true, true, true, true, true, true, true, true, true, false, false, false, false, false, false, false, false, false, false, false, false, false, false, false, false, false] rfl rfl (by kernel_rfl) (fun _ _ _ h => h) (Or.inl ⟨by rfl, ?_⟩) ?_ ?_
          rotate_left
          · intro w'
            go_simp
            with_reducible rfl
          rotate_left
          · simp only [Act.put, nA, nB, nC, i64_w, i32_w]
            rfl
          refine pure_ (i := 15) (N := some 86) (v := ?_) (a' := ?_) #[true, true, true, true, true, true, true, true, true, true, true, true, true, true, true, true, false, false, false, false, false, false, false, false, false, false, false, false, false, false, false, false] rfl rfl (by kernel_rfl) (fun _ _ _ h => h) (Or.inl ⟨by rfl, ?_⟩) ?_ ?_
          rotate_left
          · intro w'
            go_simp
            with_reducible rfl
          rotate_left
          · simp only [Act.put, nA, nB, nC, i64_w, i32_w]
            rfl
          refine pure_ (i := 16) (N := some 87) (v := ?_) (a' := ?_) #[true, true, true, true, true, true, true, true, true, true, true, true, true, true, true, true, true, false, false, false, false, false, false, false, false, false, false, false, false, false, false, false] rfl rfl (by kernel_rfl) (fun _ _ _ h => h) (Or.inl ⟨by rfl, ?_⟩) ?_ ?_
          rotate_left
          · intro w'
            go_simp
            with_reducible rfl
          rotate_left
          · simp only [Act.put, nA, nB, nC, i64_w, i32_w]
            rfl
          refine pure_ (i := 18) (N := some 89) (v := ?_) (a' := ?_) #[true, true, true, true, true, true, true, true, true, true, true, true, true, true, true, true, true, false, true, false, false, false, false, false, false, false, false, false, false, false, false, false] rfl rfl (by kernel_rfl) (fun _ _ _ h => h) (Or.inl ⟨by rfl, ?_⟩) ?_ ?_
          rotate_left
          · intro w'
            go_simp
            with_reducible rfl
          rotate_left
          · simp only [Act.put, nA, nB, nC, i64_w, i32_w]
            rfl
          refine take_ (i := 17) (N := some 88) (v := ?_) (a' := ?_) #[true, true, true, true, true, true, true, true, true, true, true, true, true, true, true, true, true, true, true, false, false, false, false, false, false, false, false, false, false, false, false, false] rfl rfl (by kernel_rfl) (fun _ _ _ h => h) (Or.inl ⟨by rfl, ?_⟩) hHeld ?_ ?_
          rotate_left
          · rintro w' ⟨s0, s1, s2, s3, s4⟩
            go_simp
            with_reducible rfl
          rotate_left
          · simp only [Act.put, nA, nB, nC, i64_w, i32_w]
            rfl
          refine pure_ (i := 19) (N := some 90) (v := ?_) (a' := ?_) #[true, true, true, true, true, true, true, true, true, true, true, true, true, true, true, true, true, true, true, true, false, false, false, false, false, false, false, false, false, false, false, false] rfl rfl (by kernel_rfl) (fun _ _ _ h => h) (Or.inl ⟨by rfl, ?_⟩) ?_ ?_
          rotate_left
          · intro w'
            go_simp
            with_reducible rfl
          rotate_left
          · simp only [Act.put, nA, nB, nC, i64_w, i32_w]
            rfl
          refine pure_ (i := 20) (N := some 91) (v := ?_) (a' := ?_) #[true, true, true, true, true, true, true, true, true, true, true, true, true, true, true, true, true, true, true, true, true, false, false, false, false, false, false, false, false, false, false, false] rfl rfl (by kernel_rfl) (fun _ _ _ h => h) (Or.inl ⟨by rfl, ?_⟩) ?_ ?_
          rotate_left
          · intro w'
            go_simp
            with_reducible rfl
          rotate_left
          · simp only [Act.put, nA, nB, nC, i64_w, i32_w]
            rfl
          refine pure_ (i := 21) (N := some 92) (v := ?_) (a' := ?_) #[true, true, true, true, true, true, true, true, true, true, true, true, true, true, true, true, true, true, true, true, true, true, false, false, false, false, false, false, false, false, false, false] rfl rfl (by kernel_rfl) (fun _ _ _ h => h) (Or.inl ⟨by rfl, ?_⟩) ?_ ?_
          rotate_left
          · intro w'
            go_simp
            with_reducible rfl
          rotate_left
          · simp only [Act.put, nA, nB, nC, i64_w, i32_w]
            rfl
          refine pure_ (i := 22) (N := some 93) (v := ?_) (a' := ?_) #[true, true, true, true, true, true, true, true, true, true, true, true, true, true, true, true, true, true, true, true, true, true, true, false, false, false, false, false, false, false, false, false] rfl rfl (by kernel_rfl) (fun _ _ _ h => h) (Or.inl ⟨by rfl, ?_⟩) ?_ ?_
          rotate_left
          · intro w'
            go_simp
            with_reducible rfl
          rotate_left
          · simp only [Act.put, nA, nB, nC, i64_w, i32_w]
            rfl
          refine pure_ (i := 24) (N := some 95) (v := ?_) (a' := ?_) #[true, true, true, true, true, true, true, true, true, true, true, true, true, true, true, true, true, true, true, true, true, true, true, false, true, false, false, false, false, false, false, false] rfl rfl (by kernel_rfl) (fun _ _ _ h => h) (Or.inl ⟨by rfl, ?_⟩) ?_ ?_
          rotate_left
          · intro w'
            go_simp
            with_reducible rfl
          rotate_left
          · simp only [Act.put, nA, nB, nC, i64_w, i32_w]
            rfl
          refine pure_ (i := 25) (N := some 96) (v := ?_) (a' := ?_) #[true, true, true, true, true, true, true, true, true, true, true, true, true, true, true, true, true, true, true, true, true, true, true, false, true, true, false, false, false, false, false, false] rfl rfl (by kernel_rfl) (fun _ _ _ h => h) (Or.inl ⟨by rfl, ?_⟩) ?_ ?_
          rotate_left
          · intro w'
            go_simp
            with_reducible rfl
          rotate_left
          · simp only [Act.put, nA, nB, nC, i64_w, i32_w]
            rfl
          refine take_ (i := 23) (N := some 94) (v := ?_) (a' := ?_) #[true, true, true, true, true, true, true, true, true, true, true, true, true, true, true, true, true, true, true, true, true, true, true, true, true, true, false, false, false, false, false, false] rfl rfl (by kernel_rfl) (fun _ _ _ h => h) (Or.inl ⟨by rfl, ?_⟩) hHeld ?_ ?_
          rotate_left
          · rintro w' ⟨s0, s1, s2, s3, s4⟩
            go_simp
            with_reducible rfl
          rotate_left
          · simp only [Act.put, nA, nB, nC, i64_w, i32_w]
            rfl
          refine take_ (i := 26) (N := some 97) (v := ?_) (a' := ?_) #[true, true, true, true, true, true, true, true, true, true, true, true, true, true, true, true, true, true, true, true, true, true, true, true, true, true, true, false, false, false, false, false] rfl rfl (by kernel_rfl) (fun _ _ _ h => h) (Or.inl ⟨by rfl, ?_⟩) hHeld ?_ ?_
          rotate_left
          · rintro w' ⟨s0, s1, s2, s3, s4⟩
            go_simp
            with_reducible rfl
          rotate_left
          · simp only [Act.put, nA, nB, nC, i64_w, i32_w]
            rfl
          refine pure_ (i := 27) (N := some 98) (v := ?_) (a' := ?_) #[true, true, true, true, true, true, true, true, true, true, true, true, true, true, true, true, true, true, true, true, true, true, true, true, true, true, true, true, false, false, false, false] rfl rfl (by kernel_rfl) (fun _ _ _ h => h) (Or.inl ⟨by rfl, ?_⟩) ?_ ?_
          rotate_left
          · intro w'
            go_simp
            with_reducible rfl
          rotate_left
          · simp only [Act.put, nA, nB, nC, i64_w, i32_w]
            rfl
          refine take_ (i := 28) (N := some 99) (v := ?_) (a' := ?_) #[true, true, true, true, true, true, true, true, true, true, true, true, true, true, true, true, true, true, true, true, true, true, true, true, true, true, true, true, true, false, false, false] rfl rfl (by kernel_rfl) (fun _ _ _ h => h) (Or.inl ⟨by rfl, ?_⟩) hHeld ?_ ?_
          rotate_left
          · rintro w' ⟨s0, s1, s2, s3, s4⟩
            go_simp
            with_reducible rfl
          rotate_left
          · simp only [Act.put, nA, nB, nC, i64_w, i32_w]
            rfl
          refine pure_ (i := 29) (N := some 100) (v := ?_) (a' := ?_) #[true, true, true, true, true, true, true, true, true, true, true, true, true, true, true, true, true, true, true, true, true, true, true, true, true, true, true, true, true, true, false, false] rfl rfl (by kernel_rfl) (fun _ _ _ h => h) (Or.inl ⟨by rfl, ?_⟩) ?_ ?_
          rotate_left
          · intro w'
            go_simp
            with_reducible rfl
          rotate_left
          · simp only [Act.put, nA, nB, nC, i64_w, i32_w]
            rfl
          refine pure_ (i := 30) (N := some 101) (v := ?_) (a' := ?_) #[true, true, true, true, true, true, true, true, true, true, true, true, true, true, true, true, true, true, true, true, true, true, true, true, true, true, true, true, true, true, true, false] rfl rfl (by kernel_rfl) (fun _ _ _ h => h) (Or.inl ⟨by rfl, ?_⟩) ?_ ?_
          rotate_left
          · intro w'
            go_simp
            with_reducible rfl
          rotate_left
          · simp only [Act.put, nA, nB, nC, i64_w, i32_w]
            rfl
          refine pure_ (i := 31) (N := some 102) (v := ?_) (a' := ?_) #[true, true, true, true, true, true, true, true, true, true, true, true, true, true, true, true, true, true, true, true, true, true, true, true, true, true, true, true, true, true, true, true] rfl rfl (by kernel_rfl) (fun _ _ _ h => h) (Or.inl ⟨by rfl, ?_⟩) ?_ ?_
          rotate_left
          · intro w'
            go_simp
            with_reducible rfl
          rotate_left
          · simp only [Act.put, nA, nB, nC, i64_w, i32_w]
            rfl
          try clear hHeld
          refine done_ (by kernel_rfl) ?_
          go_wp2_with fail
          go_roundw
          case rel =>
            refine ⟨ix + 1, .slice a2 L'.length c2, by omega, by go_num, ?_⟩
            rw [HBH.out]
            have kM : Keeps (fun k => k = w6.heap.size + 1) w3' (w3'.setCell ⟨w6.heap.size + 1, rp, none⟩ (.int .i64 ((cnt : Int) + 1))).drew := ((Keeps.refl (fun k => k = w6.heap.size + 1) w3').set _ _ (.inl rfl) _).drew
            have hst2 := (World.ownsRow.stored HM3.out rp (.int .i64 ((cnt + 1 : Nat) : Int))).1
            rw [herangeI_upd n rp (fun q => countL (l.take ix) q) (cnt + 1) hrq] at hst2
            have e : (upd (fun q => countL (l.take ix) q) rp (cnt + 1)) = fun q => countL (l.take (ix + 1)) q := funext fun q => by
              rw [HCN.out]
              unfold upd
              by_cases e : q = rp
              · subst e; rw [if_pos rfl, if_pos rfl, hct]
              · rw [if_neg e, if_neg (fun h => e h.symm), Nat.add_zero]
            rw [e, show ((cnt + 1 : Nat) : Int) = (cnt : Int) + 1 by omega] at hst2
            have hk := kM.size
            exact ⟨HB3'.out.trans (kM.below (by rintro k rfl; omega) (by omega)), by omega, HBX.out.keeps kM (by omega), own_drew hst2, rd_keeps' HRD3.out kM (fun h0 j hj e => by have := HOW.out h0 j hj; omega), HOW.out⟩
          case measure => simp [intOf]; omega
        · have hil : i = l.length := by omega
          subst hil
          have d0 : decide ((l.length : Int) < l.length) = false := decide_eq_false (by omega)
          rw [List.take_length] at hM
          have hst : behind (heLin n s).start ((heLin n s).log R.E) = behind s l := by rw [hl]; rfl
          generalize behind s l = st at *
          obtain ⟨aS, cS, hvs, -⟩ := id hM.rd
          subst hvs
          have y0 := hM.box.cell 0
          have y1 := hM.box.cell 1
          have y2 := hM.box.cell 2
          have y3 := hM.box.cell 3
          simp at y0 y1 y2 y3
          have hnB : ¬ fp6 w6.heap.size := fun h => by have := (HFL.out _ h).2; omega
          have hrd : Rd wr.drew (.slice aS st.L.length cS) st.L := hM.rd
          have hvo : 0 < st.L.length → ∀ k, (Value.slice aS st.L.length cS).ownBlock = some k → ¬ fp6 k := fun h0 k hk hf => by have := hM.own h0 k hk; have := HFL.out k hf; omega
          have HSX := Lib.hid (HST.out wr.drew (Keeps.ofBelow (F := fun k => w6.heap.size ≤ k) hM.below).drew)
          have hw6 : Below w.heap.size w wr := HB6.out.trans (hM.below.mono HB6.out.size)
          have HW6 := Lib.hid hw6
          have hfw : ∀ k, fp6 k → w.heap.size ≤ k := fun k hk => (HFL.out k hk).1
          clear hM hw6 HST
          go_wp2_with fail
          refine start_ (n := 5) (S := fun w' => w'.cell? ⟨w6.heap.size, 0, none⟩ = some (.int .i64 st.kind) ∧ w'.cell? ⟨w6.heap.size, 1, none⟩ = some (.slice aS st.L.length cS) ∧ w'.cell? ⟨w6.heap.size, 2, none⟩ = some (.bool st.isSealed) ∧ w'.cell? ⟨w6.heap.size, 3, none⟩ = some (.int .i64 st.to)) (ds := [3]) #[false, false, false, false, false] (by kernel_rfl) rfl rfl ⟨y0, y1, y2, y3⟩ (fun hHeld => ?_)
          refine pure_ (i := 0) (N := some 110) (v := ?_) (a' := ?_) #[true, false, false, false, false] rfl rfl (by kernel_rfl) (fun _ _ _ h => h) (Or.inl ⟨by rfl, ?_⟩) ?_ ?_
          rotate_left
          · intro w'
            go_simp
            with_reducible rfl
          rotate_left
          · simp only [Act.put, nA, nB, nC, i64_w, i32_w]
            rfl
          refine take_ (i := 2) (N := some 112) (v := ?_) (a' := ?_) #[true, false, true, false, false] rfl rfl (by kernel_rfl) (fun _ _ _ h => h) (Or.inl ⟨by rfl, ?_⟩) hHeld ?_ ?_
          rotate_left
          · rintro w' ⟨s0, s1, s2, s3⟩
            go_simp
            with_reducible rfl
          rotate_left
          · simp only [Act.put, nA, nB, nC, i64_w, i32_w]
            rfl
          refine one_ (i := 1) (N := some 111) #[true, true, true, false, false] rfl rfl (by kernel_rfl) (by decide) (fun K hK => ?_)
          refine goes_ Try.func31 (by kernel_rfl) rfl #[.pointer (some ⟨b, 0, none⟩)] (by rfl) rfl rfl (by simp only [List.map_toArray, List.map_cons, List.map_nil]; rfl) ?_
          with_reducible refine (HSX.out).mono ?_
          rintro e w7 ⟨v7, s7, hs7, -, rfl, hO7, fp7, -, -, hK7⟩
          refine ⟨_, rfl, ?_⟩
          have HSM := r_same s7 st hO7 (rd_keeps' hrd hK7 hvo)
          have e7 : sameB s7 st = true := (by rw [hs7.trans hst]; exact sameB_self _)
          rw [e7] at HSM
          try clear hHeld
          refine hK.out _ _ ⟨(hK7.cellSome hnB y0), (hK7.cellSome hnB y1), (hK7.cellSome hnB y2), (hK7.cellSome hnB y3)⟩ (fun hHeld => ?_)
          clear hK K
          refine norm_ (a' := ?_) ?_ ?_
          rotate_left
          · show Act.put _ (some 111) _ = _
            simp only [Act.put, nA, nB, nC, i64_w, i32_w]
            rfl
          refine last_ (i := 3) (N := some 113) #[true, true, true, true, false] rfl rfl (by kernel_rfl) (by decide) (fun K hK => ?_)
          refine goes_ Try.func19 (by kernel_rfl) rfl #[stV s7 v7, stV st (.slice aS st.L.length cS)] (by rfl) rfl rfl (by simp only [List.map_toArray, List.map_cons, List.map_nil]; rfl) ?_
          with_reducible refine (HSM).mono ?_
          rintro e w8 ⟨rfl, hb8⟩
          refine ⟨_, rfl, ?_⟩
          try clear hHeld
          refine hK.out _ _ ?_
          clear hK K
          refine norm_ (a' := ?_) ?_ ?_
          rotate_left
          · show Act.put _ (some 113) _ = _
            simp only [Act.put, nA, nB, nC, i64_w, i32_w]
            rfl
          refine pure_ (i := 4) (N := some 18) (v := ?_) (a' := ?_) #[true, true, true, true, true] rfl rfl (by kernel_rfl) (fun _ _ _ h => h) (Or.inl ⟨by rfl, ?_⟩) ?_ ?_
          rotate_left
          · intro w'
            go_simp
            with_reducible rfl
          rotate_left
          · simp only [Act.put, nA, nB, nC, i64_w, i32_w]
            rfl
          try clear hHeld
          refine done_ (by kernel_rfl) ?_
          go_wp2_with fail
          go_ret
          exact ⟨rfl, (HW6.out.drew.trans (hK7.below hfw HW6.out.size)).trans (hb8.mono (by have := HW6.out.size; have := hK7.size; simp at *; omega))⟩
    · skip
      have FW := fun W hx => Lib.hid (he_few (w := W) (vl := .slice al s.L.length cl) s hx a len cap)
      rw [decide_eq_false hok] at FW
      have NW := fun W hx => Lib.hid (he_start (w := W) (vl := .slice al s.L.length cl) s hx (by omega) n hst.1 (by omega) (by omega))
      go_enter Try.func8, Try.ntmps8
      go_wp2_with (first
        | (go_at_call 26; refine (he_up _).mono ?_; rintro e w2 ⟨rfl, hb2⟩; have hS2 := hS1.below hb2 hS1.lt; have HB2 := Lib.hid (HB1.out.trans (hb2.mono (by simp))); have c0 : w2.cell? ⟨w.heap.size, 0, none⟩ = some (.int .i64 s.kind) := hS2.cell 0; have c1 : w2.cell? ⟨w.heap.size, 1, none⟩ = some (.slice al s.L.length cl) := hS2.cell 1; have c2 : w2.cell? ⟨w.heap.size, 2, none⟩ = some (.bool s.isSealed) := hS2.cell 2; have c3 : w2.cell? ⟨w.heap.size, 3, none⟩ = some (.int .i64 s.to) := hS2.cell 3; clear hb2)
        | (go_at_call 27; refine (FW _ (HX.out.below HB2.out (Nat.le_refl _))).out.mono ?_; rintro e w3 ⟨rfl, hb3⟩; have hS3 := hS2.below hb3 hS2.lt; have HB3 := Lib.hid (HB2.out.trans (hb3.mono HB2.out.size)); clear c0 c1 c2 c3; have c0 : w3.cell? ⟨w.heap.size, 0, none⟩ = some (.int .i64 s.kind) := hS3.cell 0; have c1 : w3.cell? ⟨w.heap.size, 1, none⟩ = some (.slice al s.L.length cl) := hS3.cell 1; have c2 : w3.cell? ⟨w.heap.size, 2, none⟩ = some (.bool s.isSealed) := hS3.cell 2; have c3 : w3.cell? ⟨w.heap.size, 3, none⟩ = some (.int .i64 s.to) := hS3.cell 3; clear hb3)
        | (go_at_call 28; refine (NW _ (HX.out.below HB3.out (Nat.le_refl _))).out.mono ?_; rintro e w4 ⟨b, fp, rfl, hR4, hb4⟩; have HB4 := Lib.hid (HB3.out.trans (hb4.mono HB3.out.size)); have hb4s := hb4.size; have hS4 := hS3.below hb4 hS3.lt; have HS4 := Lib.hid hS4; clear hS4; clear hb4))
      go_ret
      exact ⟨rfl, HB4.out⟩
  · by_cases hok : s.L.length ≤ 300 ∧ len ≤ 1500
    · skip
      have FW := fun W hx => Lib.hid (he_few (w := W) (vl := .slice al s.L.length cl) s hx a len cap)
      rw [decide_eq_true hok] at FW
      have NW := fun W hx => Lib.hid (he_start_no (w := W) (vl := .slice al s.L.length cl) s hx n hst)
      go_enter Try.func8, Try.ntmps8
      go_wp2_with (first
        | (go_at_call 26; refine (he_up _).mono ?_; rintro e w2 ⟨rfl, hb2⟩; have hS2 := hS1.below hb2 hS1.lt; have HB2 := Lib.hid (HB1.out.trans (hb2.mono (by simp))); have c0 : w2.cell? ⟨w.heap.size, 0, none⟩ = some (.int .i64 s.kind) := hS2.cell 0; have c1 : w2.cell? ⟨w.heap.size, 1, none⟩ = some (.slice al s.L.length cl) := hS2.cell 1; have c2 : w2.cell? ⟨w.heap.size, 2, none⟩ = some (.bool s.isSealed) := hS2.cell 2; have c3 : w2.cell? ⟨w.heap.size, 3, none⟩ = some (.int .i64 s.to) := hS2.cell 3; clear hb2)
        | (go_at_call 27; refine (FW _ (HX.out.below HB2.out (Nat.le_refl _))).out.mono ?_; rintro e w3 ⟨rfl, hb3⟩; have hS3 := hS2.below hb3 hS2.lt; have HB3 := Lib.hid (HB2.out.trans (hb3.mono HB2.out.size)); clear c0 c1 c2 c3; have c0 : w3.cell? ⟨w.heap.size, 0, none⟩ = some (.int .i64 s.kind) := hS3.cell 0; have c1 : w3.cell? ⟨w.heap.size, 1, none⟩ = some (.slice al s.L.length cl) := hS3.cell 1; have c2 : w3.cell? ⟨w.heap.size, 2, none⟩ = some (.bool s.isSealed) := hS3.cell 2; have c3 : w3.cell? ⟨w.heap.size, 3, none⟩ = some (.int .i64 s.to) := hS3.cell 3; clear hb3)
        | (go_at_call 28; refine (NW _ (HX.out.below HB3.out (Nat.le_refl _))).out.mono ?_; rintro e w4 ⟨rfl, hb4⟩; have HB4 := Lib.hid (HB3.out.trans (hb4.mono HB3.out.size)); have hb4s := hb4.size; have hS4 := hS3.below hb4 hS3.lt; have HS4 := Lib.hid hS4; clear hS4; clear hb4))
      go_ret
      exact ⟨rfl, HB4.out⟩
    · skip
      have FW := fun W hx => Lib.hid (he_few (w := W) (vl := .slice al s.L.length cl) s hx a len cap)
      rw [decide_eq_false hok] at FW
      have NW := fun W hx => Lib.hid (he_start_no (w := W) (vl := .slice al s.L.length cl) s hx n hst)
      go_enter Try.func8, Try.ntmps8
      go_wp2_with (first
        | (go_at_call 26; refine (he_up _).mono ?_; rintro e w2 ⟨rfl, hb2⟩; have hS2 := hS1.below hb2 hS1.lt; have HB2 := Lib.hid (HB1.out.trans (hb2.mono (by simp))); have c0 : w2.cell? ⟨w.heap.size, 0, none⟩ = some (.int .i64 s.kind) := hS2.cell 0; have c1 : w2.cell? ⟨w.heap.size, 1, none⟩ = some (.slice al s.L.length cl) := hS2.cell 1; have c2 : w2.cell? ⟨w.heap.size, 2, none⟩ = some (.bool s.isSealed) := hS2.cell 2; have c3 : w2.cell? ⟨w.heap.size, 3, none⟩ = some (.int .i64 s.to) := hS2.cell 3; clear hb2)
        | (go_at_call 27; refine (FW _ (HX.out.below HB2.out (Nat.le_refl _))).out.mono ?_; rintro e w3 ⟨rfl, hb3⟩; have hS3 := hS2.below hb3 hS2.lt; have HB3 := Lib.hid (HB2.out.trans (hb3.mono HB2.out.size)); clear c0 c1 c2 c3; have c0 : w3.cell? ⟨w.heap.size, 0, none⟩ = some (.int .i64 s.kind) := hS3.cell 0; have c1 : w3.cell? ⟨w.heap.size, 1, none⟩ = some (.slice al s.L.length cl) := hS3.cell 1; have c2 : w3.cell? ⟨w.heap.size, 2, none⟩ = some (.bool s.isSealed) := hS3.cell 2; have c3 : w3.cell? ⟨w.heap.size, 3, none⟩ = some (.int .i64 s.to) := hS3.cell 3; clear hb3)
        | (go_at_call 28; refine (NW _ (HX.out.below HB3.out (Nat.le_refl _))).out.mono ?_; rintro e w4 ⟨rfl, hb4⟩; have HB4 := Lib.hid (HB3.out.trans (hb4.mono HB3.out.size)); have hb4s := hb4.size; have hS4 := hS3.below hb4 hS3.lt; have HS4 := Lib.hid hS4; clear hS4; clear hb4))
      go_ret
      exact ⟨rfl, HB4.out⟩
end Go.Proofs.Ytjfenjnnpikkdaa
/- Layer 15, HerlihyFolds: whatever the state, the processes and the script, the law returns true, and the arguments read as they did. No condition. -/
namespace Go.Proofs.Ytjfenjnnpikkdaa.herlihyFolds
open Go.ChangeShapes Go.WideShapes Go.ChangeAt Go.RowKit
open Go.ChangeMaps (open_string shut_string)
set_option maxRecDepth 100000

theorem own : ownKnob Try.prog.godebug = none := by kernel_rfl
theorem laidOut : laidOutB Try.prog = true := by kernel_rfl

set_option maxRecDepth 100000 in
theorem lifted (os : Os) (started : os.Started) (H : Type) (enc : TypeId × Value → H) :
    ReturnsInHanded {} Try.checked os 8 .any (Rows.herlihyFoldsSpec.pre6 enc Try.prog Try.f8 Rows.herlihyFoldsRow.domain false) (Rows.herlihyFoldsSpec.post enc Try.prog Try.f8 false true false false) := by
  refine returnsInHanded_of_change (C := Try.checked) own started (by kernel_rfl) Try.func8
    (ChangeSpec.witness6 (enc := enc) (C := Try.checked) false ⟨#[], #[.agg #[.int .i64 0, .slice none 0 0, .bool false, .int .i64 0], .int .i64 0, .slice none 0 0], []⟩ 8 (by kernel_rfl) (by kernel_rfl) (by kernel_rfl) (by kernel_rfl)) ?_
  intro W base args ds gs before hval0 hW hcnd _
  have hval : ∀ (j : Nat) t v, Try.f8.params[j]? = some t → args[j]? = some v → Value.okWide Try.prog W .any base t v := hval0
  have hW' := hW
  obtain ⟨p, q, hA0, hV, rfl, hfz, hnd⟩ := hW
  have hA : DataW.TrodAll enc Try.prog W 0 (fun _ => true) true Try.f8.params.toList args.toList ds p := hA0
  rw [Try.params8] at hA hval
  obtain ⟨v0, vs0, d0, ds0, p0, q0, hargs, rfl, rfl, h0, r0⟩ := trodAll_cons hA
  obtain ⟨v1, vs1, d1, ds1, p1, q1, rfl, rfl, rfl, h1, r1⟩ := trodAll_cons r0
  obtain ⟨v2, vs2, d2, ds2, p2, q2, rfl, rfl, rfl, h2, r2⟩ := trodAll_cons r1
  obtain ⟨rfl, rfl, rfl⟩ := trodAll_nil r2
  obtain rfl : args = #[v0, v1, v2] := by cases args; simp_all
  obtain ⟨rfl, rfl⟩ := trodVars_none hV
  have k0 := h0
  have lt0 : ∀ x ∈ p0, x.block < W.heap.size := by obtain ⟨m, hm⟩ := k0; exact DataW.trod_lt m _ _ _ hm
  have k1 := h1
  have lt1 : ∀ x ∈ p1, x.block < W.heap.size := by obtain ⟨m, hm⟩ := k1; exact DataW.trod_lt m _ _ _ hm
  have k2 := h2
  have lt2 : ∀ x ∈ p2, x.block < W.heap.size := by obtain ⟨m, hm⟩ := k2; exact DataW.trod_lt m _ _ _ hm
  obtain ⟨s0, l0, rfl, w0⟩ := open_state (hval 0 24 v0 rfl rfl) h0
  obtain ⟨a1, rfl, rfl, rfl, w1⟩ := open_int Try.underlying3 (hval 1 3 v1 rfl rfl) h1
  obtain ⟨a2, len2, cap2, rfl⟩ := okWide_slice Try.underlying57 (hval 2 57 v2 rfl rfl)
  obtain ⟨hlc2, hcm2, f2, w2⟩ : len2 ≤ cap2 ∧ cap2 ≤ 9223372036854775807 ∧ ∃ f, IsOps W a2 len2 f 5 := by
    obtain ⟨fuel, hf⟩ := h2
    exact open_flat_structs Try.underlying57 Try.cells_evHe (by decide) (flat_evHe (enc := enc)) a2 len2 cap2 (by simpa [Value.cells] using hf)
  clear hA0 hval0
  refine (he_folds (w := W) s0 w0 a1 a2 len2 cap2 f2 w2 hlc2 hcm2).mono fun e W' ⟨he, bel⟩ => ?_
  subst he
  exact ⟨_, rfl, _, _, _, [], _, [], hW', trodAll_mk1 (shut_bool Try.underlying4 _), (trodAll_cons_mk (Below.trod laidOut (by kernel_rfl) (of_decide_eq_true (by kernel_rfl)) k0 bel lt0) (trodAll_cons_mk (Below.trod laidOut (by kernel_rfl) (of_decide_eq_true (by kernel_rfl)) k1 bel lt1) (trodAll_cons_mk (Below.trod laidOut (by kernel_rfl) (of_decide_eq_true (by kernel_rfl)) k2 bel lt2) trodAll_mk0))), rfl, bel.frame _, fun h => by cases h⟩

theorem over : Rows.herlihyFoldsRow.holds Try.pinned (OpenSpec.ofChange Rows.herlihyFoldsSpec) :=
  OpenClaim.holds_of_wide 8 Try.f8 rfl rfl rfl rfl rfl rfl rfl ⟨rfl, rfl, rfl, rfl, rfl⟩ rfl rfl rfl rfl rfl (by kernel_rfl) Try.func8 (by kernel_rfl)
    (of_decide_eq_true (by kernel_rfl)) (by unfold Func.isWrapper; first | (rw [if_pos (by decide +kernel)]; kernel_rfl) | (rw [if_neg (by decide +kernel)]; exact ⟨rfl, rfl⟩))
    (fun os started H enc _ => lifted os started H enc)

theorem proved : Rows.HerlihyFoldsSaid := over
#print axioms proved
end Go.Proofs.Ytjfenjnnpikkdaa.herlihyFolds
