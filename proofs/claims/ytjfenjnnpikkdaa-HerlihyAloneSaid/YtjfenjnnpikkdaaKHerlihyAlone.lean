/-
  Layer 15, HerlihyAlone: whatever the state, the processes and the script, the law returns true, and the arguments read as they did. No condition.
-/
import Derived.Test.YtjfenjnnpikkdaaRows
import Derived.WalkKit
import Derived.ProofKit
import Derived.OpenShut
import Derived.ShutString
import Derived.ChangeOld
import Derived.Below
import Derived.Test.YtjfenjnnpikkdaaKd
import Derived.Test.YtjfenjnnpikkdaaKf
import Derived.Test.YtjfenjnnpikkdaaKg
import Derived.Test.YtjfenjnnpikkdaaKk
import Derived.Test.YtjfenjnnpikkdaaKka
import Derived.Test.YtjfenjnnpikkdaaKkb
set_option linter.unusedVariables false
set_option linter.unusedSimpArgs false
namespace Go.Proofs.Ytjfenjnnpikkdaa
set_option maxRecDepth 100000
open Go.RowKit

structure StepT (W : World) (v0 : Value) (r : St × Int) (vn : Value) (g : Nat) (w' : World) : Prop where
  rd : Rd w' vn r.1.L
  bel : Below W.heap.size W w'
  box : Blk w' g #[.int .i64 0, .slice none 0 0, .bool false, .int .i64 0] 24
  new : W.heap.size ≤ g ∧ g < w'.heap.size
  own : vn = v0 ∨ ∀ k, vn.ownBlock = some k → W.heap.size ≤ k ∧ k < w'.heap.size ∧ k ≠ g
theorem StepT.one {W w4 : World} {v0 vn : Value} {r : St × Int} (h1 : Rd w4 vn r.1.L) (h2 : Below W.heap.size W w4) (h3 : vn = v0 ∨ ∀ k, vn.ownBlock = some k → W.heap.size ≤ k ∧ k < w4.heap.size) :
    StepT W v0 r vn w4.heap.size (w4.alloc (.cells #[.int .i64 0, .slice none 0 0, .bool false, .int .i64 0] 24)) :=
  ⟨h1.alloc _, h2.alloc h2.size _, Blk.new _ _ _, ⟨h2.size, by simp⟩, h3.imp id fun h k hk => ⟨(h k hk).1, by have := (h k hk).2; simp; omega, by have := (h k hk).2; omega⟩⟩
theorem StepT.two {W w4 : World} {v0 vn : Value} {r : St × Int} (h1 : Rd w4 vn r.1.L) (h2 : Below (W.alloc (.cells #[.int .i64 0, .slice none 0 0, .bool false, .int .i64 0] 24)).drew.heap.size (W.alloc (.cells #[.int .i64 0, .slice none 0 0, .bool false, .int .i64 0] 24)).drew w4)
    (h3 : vn = v0 ∨ ∀ k, vn.ownBlock = some k → (W.alloc (.cells #[.int .i64 0, .slice none 0 0, .bool false, .int .i64 0] 24)).drew.heap.size ≤ k ∧ k < w4.heap.size) : StepT W.drew v0 r vn W.heap.size w4 := by
  have b := (Blk.new W #[.int .i64 0, .slice none 0 0, .bool false, .int .i64 0] 24).drew.below h2 (by simp)
  have h4 : Below W.drew.heap.size W.drew (W.alloc (.cells #[.int .i64 0, .slice none 0 0, .bool false, .int .i64 0] 24)).drew := ((Below.refl _ W.drew).alloc (Nat.le_refl _) (.cells #[.int .i64 0, .slice none 0 0, .bool false, .int .i64 0] 24))
  exact ⟨h1, h4.trans (h2.mono (by simp)), b, ⟨Nat.le_refl _, b.lt⟩, h3.imp id fun h k hk => by have := h k hk; simp at this; exact ⟨by simp; omega, this.2, by omega⟩⟩
theorem rd_keeps' {F : Nat → Prop} {w w' : World} {v : Value} {xs : List Int} (h : Rd w v xs) (k : Keeps F w w') (hd : 0 < xs.length → ∀ b, v.ownBlock = some b → ¬ F b) : Rd w' v xs := by
  by_cases h0 : 0 < xs.length
  · exact h.keeps k (hd h0)
  · obtain ⟨a, c, rfl, h1, h2, h3⟩ := h
    exact ⟨a, c, rfl, h1, h2, fun hl => absurd hl h0⟩
theorem rd_len2 {w w' : World} {v : Value} {xs ys : List Int} (h : Rd w v xs) (h' : Rd w' v ys) : xs.length = ys.length := by
  obtain ⟨a, c, rfl, _⟩ := h
  obtain ⟨a', c', e, _⟩ := h'
  injection e
theorem rd_lt {w : World} {v : Value} {xs : List Int} (h : Rd w v xs) (h0 : 0 < xs.length) {k : Nat} (hk : v.ownBlock = some k) : k < w.heap.size := by
  obtain ⟨a, c, rfl, h1, h2, h3⟩ := h
  obtain ⟨b, o, rfl, hb, _⟩ := h3 h0
  simp only [Value.ownBlock, Option.some.injEq] at hk
  omega
end Go.Proofs.Ytjfenjnnpikkdaa
/- Operations that are done one behind the other come to what the object says: the walk. -/
namespace Go.Proofs.Ytjfenjnnpikkdaa
set_option maxRecDepth 100000
open Go.RowKit
open Go.Proofs.YtjfenjnnpikkdaaW.PrintLast

theorem sameB_refl (s : St) : sameB s s = true := by simp [sameB]
/-- The law's own state, boxed at B. -/
structure BoxM (w : World) (B : Nat) (st : St) (vs : Value) (fpk : Nat → Prop) (wr : World) : Prop where
  bel : Below w.heap.size w wr
  size : B + 1 ≤ wr.heap.size
  lo : w.heap.size ≤ B
  box : Blk wr B #[.int .i64 st.kind, vs, .bool st.isSealed, .int .i64 st.to] 24
  nob : ¬ fpk B
  rd : Rd wr vs st.L
  own : 0 < st.L.length → ∀ k, vs.ownBlock = some k → (k < w.heap.size ∨ B + 1 ≤ k) ∧ ¬ fpk k
theorem BoxM.drewB {w wr : World} {B : Nat} {st : St} {vs : Value} {fpk : Nat → Prop} (h : BoxM w B st vs fpk wr) : BoxM w B st vs fpk wr.drew :=
  ⟨h.bel.drew, h.size, h.lo, h.box, h.nob, h.rd, h.own⟩
theorem BoxM.grow {w wr w' : World} {B : Nat} {st : St} {vs : Value} {fpk : Nat → Prop} (h : BoxM w B st vs fpk wr) (hb : Below wr.heap.size wr w') : BoxM w B st vs fpk w' :=
  ⟨h.bel.trans (hb.mono h.bel.size), Nat.le_trans h.size hb.size, h.lo, h.box.below hb h.box.lt, h.nob, h.rd.below hb (Nat.le_refl _), h.own⟩
theorem BoxM.post {w wr w' : World} {B : Nat} {st : St} {vs : Value} {fpk fp' : Nat → Prop} (h : BoxM w B st vs fpk wr) (ho : ∀ k, k < wr.heap.size → (fp' k ↔ fpk k)) (hK : Keeps fpk wr w') (hb : ∀ k, fpk k → w.heap.size ≤ k) : BoxM w B st vs fp' w' :=
  ⟨h.bel.trans (hK.below hb h.bel.size), Nat.le_trans h.size hK.size, h.lo, h.box.keeps hK h.nob, by rw [ho _ h.box.lt]; exact h.nob, rd_keeps' h.rd hK (fun h0 k hk => (h.own h0 k hk).2), fun h0 k hk => ⟨(h.own h0 k hk).1, by rw [ho _ (rd_lt h.rd h0 hk)]; exact (h.own h0 k hk).2⟩⟩

set_option maxRecDepth 100000 in
set_option maxHeartbeats 12800000 in
theorem he_alone {w : World} {vl : Value} (s : St) (hx : Rd w vl s.L) (n : Int) (a : Option Addr) (len cap : Nat) (f : Nat → Nat → Int) (hv : IsOps w a len f 5) (hlc : len ≤ cap) (hcm : cap ≤ 9223372036854775807) :
    Calls Try.prog 12 #[stV s vl, .int .i64 n, .slice a len cap] w (Tells w true) := by
  obtain ⟨al, cl, rfl, hcl, hcm2, _⟩ := id hx
  have hb1 : Below w.heap.size w (w.alloc (.cells #[.int .i64 s.kind, .slice al s.L.length cl, .bool s.isSealed, .int .i64 s.to] 24)) := (Below.refl _ _).alloc (Nat.le_refl _) _
  have hS1 := Blk.new w #[.int .i64 s.kind, .slice al s.L.length cl, .bool s.isSealed, .int .i64 s.to] 24
  have HB1 := Lib.hid hb1
  have HX := Lib.hid hx
  have HV := Lib.hid hv
  clear hx hb1 hv
  by_cases hst : mayB s = true ∧ 1 ≤ n ∧ n ≤ 64
  · obtain ⟨n, rfl⟩ := Int.eq_ofNat_of_zero_le (show 0 ≤ n by omega)
    have hlen := may_len hst.1
    have hn1 : 0 < n ∧ n ≤ 64 := by omega
    by_cases hok : s.L.length ≤ 300 ∧ len ≤ 1500
    · skip
      by_cases h60 : (60 : Int) < (len : Int)
      · have d60 : decide ((60 : Int) < (len : Int)) = true := decide_eq_true h60
        have FW := fun W hx => Lib.hid (he_few (w := W) (vl := .slice al s.L.length cl) s hx a len cap)
        rw [decide_eq_true hok] at FW
        have NW := fun W hx => Lib.hid (he_start (w := W) (vl := .slice al s.L.length cl) s hx (by omega) n hst.1 (by omega) (by omega))
        go_enter Try.func12, Try.ntmps12
        go_wp2_with (first
          | (go_at_call 26; refine (he_up _).mono ?_; rintro e w2 ⟨rfl, hb2⟩; have hS2 := hS1.below hb2 hS1.lt; have HB2 := Lib.hid (HB1.out.trans (hb2.mono (by simp))); have c0 : w2.cell? ⟨w.heap.size, 0, none⟩ = some (.int .i64 s.kind) := hS2.cell 0; have c1 : w2.cell? ⟨w.heap.size, 1, none⟩ = some (.slice al s.L.length cl) := hS2.cell 1; have c2 : w2.cell? ⟨w.heap.size, 2, none⟩ = some (.bool s.isSealed) := hS2.cell 2; have c3 : w2.cell? ⟨w.heap.size, 3, none⟩ = some (.int .i64 s.to) := hS2.cell 3; clear hb2)
          | (go_at_call 27; refine (FW _ (HX.out.below HB2.out (Nat.le_refl _))).out.mono ?_; rintro e w3 ⟨rfl, hb3⟩; have hS3 := hS2.below hb3 hS2.lt; have HB3 := Lib.hid (HB2.out.trans (hb3.mono HB2.out.size)); clear c0 c1 c2 c3; have c0 : w3.cell? ⟨w.heap.size, 0, none⟩ = some (.int .i64 s.kind) := hS3.cell 0; have c1 : w3.cell? ⟨w.heap.size, 1, none⟩ = some (.slice al s.L.length cl) := hS3.cell 1; have c2 : w3.cell? ⟨w.heap.size, 2, none⟩ = some (.bool s.isSealed) := hS3.cell 2; have c3 : w3.cell? ⟨w.heap.size, 3, none⟩ = some (.int .i64 s.to) := hS3.cell 3; clear hb3)
          | (go_at_call 28; refine (NW _ (HX.out.below HB3.out (Nat.le_refl _))).out.mono ?_; rintro e w4 ⟨b, fp, rfl, hR4, hb4⟩; have HB4 := Lib.hid (HB3.out.trans (hb4.mono HB3.out.size)); have hb4s := hb4.size; have hS4 := hS3.below hb4 hS3.lt; have HS4 := Lib.hid hS4; clear c0 c1 c2 c3; have c0 : w4.cell? ⟨w.heap.size, 0, none⟩ = some (.int .i64 s.kind) := hS4.cell 0; have c1 : w4.cell? ⟨w.heap.size, 1, none⟩ = some (.slice al s.L.length cl) := hS4.cell 1; have c2 : w4.cell? ⟨w.heap.size, 2, none⟩ = some (.bool s.isSealed) := hS4.cell 2; have c3 : w4.cell? ⟨w.heap.size, 3, none⟩ = some (.int .i64 s.to) := hS4.cell 3; clear hS4; clear hb4))
        go_ret
        exact ⟨rfl, HB4.out⟩
      · have d60 : decide ((60 : Int) < (len : Int)) = false := decide_eq_false h60
        have FW := fun W hx => Lib.hid (he_few (w := W) (vl := .slice al s.L.length cl) s hx a len cap)
        rw [decide_eq_true hok] at FW
        have NW := fun W hx => Lib.hid (he_start (w := W) (vl := .slice al s.L.length cl) s hx (by omega) n hst.1 (by omega) (by omega))
        go_enter Try.func12, Try.ntmps12
        go_wp2_with (first
          | (go_at_call 26; refine (he_up _).mono ?_; rintro e w2 ⟨rfl, hb2⟩; have hS2 := hS1.below hb2 hS1.lt; have HB2 := Lib.hid (HB1.out.trans (hb2.mono (by simp))); have c0 : w2.cell? ⟨w.heap.size, 0, none⟩ = some (.int .i64 s.kind) := hS2.cell 0; have c1 : w2.cell? ⟨w.heap.size, 1, none⟩ = some (.slice al s.L.length cl) := hS2.cell 1; have c2 : w2.cell? ⟨w.heap.size, 2, none⟩ = some (.bool s.isSealed) := hS2.cell 2; have c3 : w2.cell? ⟨w.heap.size, 3, none⟩ = some (.int .i64 s.to) := hS2.cell 3; clear hb2)
          | (go_at_call 27; refine (FW _ (HX.out.below HB2.out (Nat.le_refl _))).out.mono ?_; rintro e w3 ⟨rfl, hb3⟩; have hS3 := hS2.below hb3 hS2.lt; have HB3 := Lib.hid (HB2.out.trans (hb3.mono HB2.out.size)); clear c0 c1 c2 c3; have c0 : w3.cell? ⟨w.heap.size, 0, none⟩ = some (.int .i64 s.kind) := hS3.cell 0; have c1 : w3.cell? ⟨w.heap.size, 1, none⟩ = some (.slice al s.L.length cl) := hS3.cell 1; have c2 : w3.cell? ⟨w.heap.size, 2, none⟩ = some (.bool s.isSealed) := hS3.cell 2; have c3 : w3.cell? ⟨w.heap.size, 3, none⟩ = some (.int .i64 s.to) := hS3.cell 3; clear hb3)
          | (go_at_call 28; refine (NW _ (HX.out.below HB3.out (Nat.le_refl _))).out.mono ?_; rintro e w4 ⟨b, fp, rfl, hR4, hb4⟩; have HB4 := Lib.hid (HB3.out.trans (hb4.mono HB3.out.size)); have hb4s := hb4.size; have hS4 := hS3.below hb4 hS3.lt; have HS4 := Lib.hid hS4; clear c0 c1 c2 c3; have c0 : w4.cell? ⟨w.heap.size, 0, none⟩ = some (.int .i64 s.kind) := hS4.cell 0; have c1 : w4.cell? ⟨w.heap.size, 1, none⟩ = some (.slice al s.L.length cl) := hS4.cell 1; have c2 : w4.cell? ⟨w.heap.size, 2, none⟩ = some (.bool s.isSealed) := hS4.cell 2; have c3 : w4.cell? ⟨w.heap.size, 3, none⟩ = some (.int .i64 s.to) := hS4.cell 3; clear hS4; clear hb4))
        have I := heIf n s hn1
        have hz := he_zero n s (by omega)
        have SO := heSolo n s
        have hV4 := HV.out.mono HB4.out (Nat.le_refl _)
        have hbw : w3.heap.size ≤ w4.heap.size := hb4s
        have h03 : w.heap.size < w3.heap.size := hS3.lt
        have hfb : ∀ k, fp k → w3.heap.size ≤ k ∧ k < w4.heap.size := I.lt hR4
        have kA : Keeps (fun _ => False) w4 (w4.alloc (.cells #[.int .i64 s.kind, .slice al s.L.length cl, .bool s.isSealed, .int .i64 s.to] 24)) := (Keeps.refl _ _).alloc _
        have hE0 : RunE (heRep n s) w4 w3.heap.size fp b 0 (heZero n s) fp (w4.alloc (.cells #[.int .i64 s.kind, .slice al s.L.length cl, .bool s.isSealed, .int .i64 s.to] 24)) := ⟨I.keeps hR4 kA (fun k h => h.elim), fun _ _ => Iff.rfl, kA.mono (fun k h => h.elim)⟩
        have hB0 : BoxM w w4.heap.size s (.slice al s.L.length cl) fp (w4.alloc (.cells #[.int .i64 s.kind, .slice al s.L.length cl, .bool s.isSealed, .int .i64 s.to] 24)) :=
          ⟨HB4.out.alloc HB4.out.size _, by simp, by omega, Blk.new w4 _ _, fun h => by have := (hfb _ h).2; omega, (HX.out.below HB4.out (Nat.le_refl _)).alloc _, fun h0 k hk => ⟨.inl (rd_lt HX.out h0 hk), fun h => by have := rd_lt HX.out h0 hk; have := (hfb _ h).1; omega⟩⟩
        have HE0 := Lib.hid hE0
        have HB0 := Lib.hid hB0
        clear hR4 hV4 c0 c1 c2 c3 kA hE0 hB0 HS4
        go_loopw [12, 13, 14, 15, 16, 17, 18] (fun iv _ _ _ _ _ _ wr => ∃ (i M : Nat) (E : HS) (st : St) (vs : Value) (fpk : Nat → Prop), i ≤ len ∧ iv = .int .i64 i ∧ M ≤ i * 10000 ∧ RunE (heRep n s) w4 w3.heap.size fp b M E fpk wr ∧ BoxM w w4.heap.size st vs fpk wr ∧ (∀ q, q < n → (heLin n s).busy E q = false) ∧ behind s ((heLin n s).log E) = st ∧ ((heLin n s).log E).length ≤ i) (fun iv _ _ _ _ _ _ _ => len - (intOf iv).toNat)
        case atStart => exact ⟨0, 0, _, s, _, fp, Nat.zero_le _, rfl, by omega, HE0.out, HB0.out, hz.busy, by rw [hz.log]; rfl, by rw [hz.log]; exact Nat.le_refl _⟩
        case round =>
          obtain ⟨i, M, E, st, vs, fpk, hi, rfl, hM, hE, hB, hid, hbe, hle⟩ := hrel
          clear HE0 HB0
          by_cases hlt : i < len
          · have d0 : decide ((i : Int) < len) = true := decide_eq_true (by omega)
            have i1 : (0 : Int) ≤ (i : Int) := by omega
            have i2 : (i : Int) < (len : Int) := by omega
            have i64k : IntKind.i64.wrap ((i : Int) + 1) = (i : Int) + 1 := IntWalk.i64_in _ (by omega)
            obtain ⟨ba, oa, rfl, hba, hcells⟩ := HV.out (by omega)
            have hcw : ∀ (W : World), Below w.heap.size w W → W.cell? ⟨ba, oa + i * 5 + 1, none⟩ = some (.int .i64 (f i 1)) ∧ W.cell? ⟨ba, oa + i * 5 + 2, none⟩ = some (.int .i64 (f i 2)) ∧ W.cell? ⟨ba, oa + i * 5 + 3, none⟩ = some (.int .i64 (f i 3)) ∧ W.cell? ⟨ba, oa + i * 5 + 4, none⟩ = some (.int .i64 (f i 4)) := fun W hB =>
              ⟨(hB.cell (p := ⟨ba, oa + i * 5 + 1, none⟩) hba).trans (hcells i 1 hlt (by decide)), (hB.cell (p := ⟨ba, oa + i * 5 + 2, none⟩) hba).trans (hcells i 2 hlt (by decide)), (hB.cell (p := ⟨ba, oa + i * 5 + 3, none⟩) hba).trans (hcells i 3 hlt (by decide)), (hB.cell (p := ⟨ba, oa + i * 5 + 4, none⟩) hba).trans (hcells i 4 hlt (by decide))⟩
            clear hcells
            obtain ⟨pp, hpp⟩ : ∃ x, f i 1 = x := ⟨_, rfl⟩
            obtain ⟨oc, hoc⟩ : ∃ x, f i 2 = x := ⟨_, rfl⟩
            obtain ⟨ox, hox⟩ : ∃ x, f i 3 = x := ⟨_, rfl⟩
            obtain ⟨oy, hoy⟩ : ∃ x, f i 4 = x := ⟨_, rfl⟩
            simp only [hpp, hoc, hox, hoy] at hcw
            clear hpp hoc hox hoy
            obtain ⟨e1, e2, e3, e4⟩ := hcw wr hB.bel
            have hbawr : ba < wr.heap.size := Nat.lt_of_lt_of_le hba hB.bel.size
            have hEd := hE.mine I hbw ((Keeps.refl (fun _ => False) wr).drew) (fun _ h => h.elim)
            have HI0 := Lib.hid (I.invoke hEd.rep (by omega) pp ⟨oc, ox, oy⟩)
            have hfw : ∀ k, fpk k → w.heap.size ≤ k := fun k hk => by have := (I.lt hE.rep k hk).1; omega
            have HE := Lib.hid hEd
            have HB := Lib.hid hB.drewB
            have HCW := Lib.hid hcw
            have HFW0 := Lib.hid hfw
            clear hE hEd hB hcw hfw
            by_cases hc : codeI (heLin n s) E pp ⟨oc, ox, oy⟩ = 0
            · have hc' := (codeI_zero (heLin n s) _ _ _).1 hc
              have hii : invI (heLin n s) E pp ⟨oc, ox, oy⟩ = (heLin n s).invoke E pp.toNat ⟨oc, ox, oy⟩ := by unfold invI; rw [if_pos hc]
              rw [hc, hii] at HI0
              obtain ⟨hp0, hpn, hft, hbz⟩ := hc'
              clear hc hii
              obtain ⟨q, rfl⟩ := Int.eq_ofNat_of_zero_le hp0
              rw [Int.toNat_natCast] at HI0 hbz
              have hq : q < n := by have h : (q : Int) < (n : Int) := hpn; omega
              have hinv : (heLin n s).Inv E := I.inv HE.out.rep
              have hI1 := (heLin n s).inv_invoke E q ⟨oc, ox, oy⟩ hinv hq hbz hft
              have hb1 : (heLin n s).busy ((heLin n s).invoke E q ⟨oc, ox, oy⟩) q = true := by rw [(heLin n s).busy_invoke E q ⟨oc, ox, oy⟩ hinv hq hbz]; simp
              have hdone := solo_done SO hI1 hq hb1 (fun q' hq' hne => by rw [(heLin n s).busy_invoke E q ⟨oc, ox, oy⟩ hinv hq hbz, hid q' hq']; simp [hne])
              rw [(heLin n s).log_invoke E q ⟨oc, ox, oy⟩ hinv hq hbz] at hdone
              have hkb : heSB n ((heLin n s).log E).length ≤ 9000 := heSB_le (by omega) (by omega)
              have hend := fun k (h : (soloS (heLin n s) ((heLin n s).invoke E q ⟨oc, ox, oy⟩) (q : Int) k).2.2 = true) => solo_end hinv hq hid hft h
              have hLs : (heLin n s).start = s := rfl
              rw [hLs, hbe] at hend
              have HDONE := Lib.hid hdone
              have HEND := Lib.hid hend
              clear hdone hend hI1 hb1 hinv hid hbe hp0 hpn
              generalize (heLin n s).invoke E q ⟨oc, ox, oy⟩ = E1 at *
              generalize heSB n ((heLin n s).log E).length = kb at *
              go_wp2_with fail
              refine start_ (n := 13) (S := fun w' => w'.cell? ⟨ba, oa + i * 5 + 1, none⟩ = some (.int .i64 q) ∧ w'.cell? ⟨ba, oa + i * 5 + 2, none⟩ = some (.int .i64 oc) ∧ w'.cell? ⟨ba, oa + i * 5 + 3, none⟩ = some (.int .i64 ox) ∧ w'.cell? ⟨ba, oa + i * 5 + 4, none⟩ = some (.int .i64 oy)) (ds := [11]) #[false, false, false, false, false, false, false, false, false, false, false, false, false] (by kernel_rfl) rfl rfl ⟨e1, e2, e3, e4⟩ (fun hHeld => ?_)
              refine pure_ (i := 0) (N := some 56) (v := ?_) (a' := ?_) #[true, false, false, false, false, false, false, false, false, false, false, false, false] rfl rfl (by kernel_rfl) (fun _ _ _ h => h) (Or.inl ⟨by rfl, ?_⟩) ?_ ?_
              rotate_left
              · intro w'
                go_simp
                with_reducible rfl
              rotate_left
              · simp only [Act.put, nA, nB, nC, i64_w, i32_w]
                rfl
              refine pure_ (i := 1) (N := some 57) (v := ?_) (a' := ?_) #[true, true, false, false, false, false, false, false, false, false, false, false, false] rfl rfl (by kernel_rfl) (fun _ _ _ h => h) (Or.inl ⟨by rfl, ?_⟩) ?_ ?_
              rotate_left
              · intro w'
                go_simp
                with_reducible rfl
              rotate_left
              · simp only [Act.put, nA, nB, nC, i64_w, i32_w]
                rfl
              refine pure_ (i := 2) (N := some 58) (v := ?_) (a' := ?_) #[true, true, true, false, false, false, false, false, false, false, false, false, false] rfl rfl (by kernel_rfl) (fun _ _ _ h => h) (Or.inl ⟨by rfl, ?_⟩) ?_ ?_
              rotate_left
              · intro w'
                go_simp
                with_reducible rfl
              rotate_left
              · simp only [Act.put, nA, nB, nC, i64_w, i32_w]
                rfl
              refine pure_ (i := 3) (N := some 59) (v := ?_) (a' := ?_) #[true, true, true, true, false, false, false, false, false, false, false, false, false] rfl rfl (by kernel_rfl) (fun _ _ _ h => h) (Or.inl ⟨by rfl, ?_⟩) ?_ ?_
              rotate_left
              · intro w'
                go_simp
                with_reducible rfl
              rotate_left
              · simp only [Act.put, nA, nB, nC, i64_w, i32_w]
                rfl
              refine pure_ (i := 4) (N := some 60) (v := ?_) (a' := ?_) #[true, true, true, true, true, false, false, false, false, false, false, false, false] rfl rfl (by kernel_rfl) (fun _ _ _ h => h) (Or.inl ⟨by rfl, ?_⟩) ?_ ?_
              rotate_left
              · intro w'
                go_simp
                with_reducible rfl
              rotate_left
              · simp only [Act.put, nA, nB, nC, i64_w, i32_w]
                rfl
              refine pure_ (i := 6) (N := some 62) (v := ?_) (a' := ?_) #[true, true, true, true, true, false, true, false, false, false, false, false, false] rfl rfl (by kernel_rfl) (fun _ _ _ h => h) (Or.inl ⟨by rfl, ?_⟩) ?_ ?_
              rotate_left
              · intro w'
                go_simp
                with_reducible rfl
              rotate_left
              · simp only [Act.put, nA, nB, nC, i64_w, i32_w]
                rfl
              refine pure_ (i := 7) (N := some 63) (v := ?_) (a' := ?_) #[true, true, true, true, true, false, true, true, false, false, false, false, false] rfl rfl (by kernel_rfl) (fun _ _ _ h => h) (Or.inl ⟨by rfl, ?_⟩) ?_ ?_
              rotate_left
              · intro w'
                go_simp
                with_reducible rfl
              rotate_left
              · simp only [Act.put, nA, nB, nC, i64_w, i32_w]
                rfl
              refine pure_ (i := 8) (N := some 64) (v := ?_) (a' := ?_) #[true, true, true, true, true, false, true, true, true, false, false, false, false] rfl rfl (by kernel_rfl) (fun _ _ _ h => h) (Or.inl ⟨by rfl, ?_⟩) ?_ ?_
              rotate_left
              · intro w'
                go_simp
                with_reducible rfl
              rotate_left
              · simp only [Act.put, nA, nB, nC, i64_w, i32_w]
                rfl
              refine pure_ (i := 9) (N := some 65) (v := ?_) (a' := ?_) #[true, true, true, true, true, false, true, true, true, true, false, false, false] rfl rfl (by kernel_rfl) (fun _ _ _ h => h) (Or.inl ⟨by rfl, ?_⟩) ?_ ?_
              rotate_left
              · intro w'
                go_simp
                with_reducible rfl
              rotate_left
              · simp only [Act.put, nA, nB, nC, i64_w, i32_w]
                rfl
              refine take_ (i := 5) (N := some 61) (v := ?_) (a' := ?_) #[true, true, true, true, true, true, true, true, true, true, false, false, false] rfl rfl (by kernel_rfl) (fun _ _ _ h => h) (Or.inl ⟨by rfl, ?_⟩) hHeld ?_ ?_
              rotate_left
              · rintro w' ⟨s0, s1, s2, s3⟩
                go_simp
                with_reducible rfl
              rotate_left
              · simp only [Act.put, nA, nB, nC, i64_w, i32_w]
                rfl
              refine take_ (i := 10) (N := some 66) (v := ?_) (a' := ?_) #[true, true, true, true, true, true, true, true, true, true, true, false, false] rfl rfl (by kernel_rfl) (fun _ _ _ h => h) (Or.inl ⟨by rfl, ?_⟩) hHeld ?_ ?_
              rotate_left
              · rintro w' ⟨s0, s1, s2, s3⟩
                go_simp
                with_reducible rfl
              rotate_left
              · simp only [Act.put, nA, nB, nC, i64_w, i32_w]
                rfl
              refine last_ (i := 11) (N := some 67) #[true, true, true, true, true, true, true, true, true, true, true, true, false] rfl rfl (by kernel_rfl) (by decide) (fun K hK => ?_)
              refine goes_ Try.func33 (by kernel_rfl) rfl #[.pointer (some ⟨b, 0, none⟩), .int .i64 q, .agg #[.int .i64 oc, .int .i64 ox, .int .i64 oy]] (by rfl) rfl rfl (by simp only [List.map_toArray, List.map_cons, List.map_nil]; rfl) ?_
              with_reducible refine (HI0.out).mono ?_
              rintro e wj ⟨rfl, fpj, hRj, hfpj, hKj⟩
              refine ⟨_, rfl, ?_⟩
              try clear hHeld
              refine hK.out _ _ ?_
              clear hK K
              refine norm_ (a' := ?_) ?_ ?_
              rotate_left
              · show Act.put _ (some 67) _ = _
                simp only [Act.put, nA, nB, nC, i64_w, i32_w]
                rfl
              refine pure_ (i := 12) (N := some 68) (v := ?_) (a' := ?_) #[true, true, true, true, true, true, true, true, true, true, true, true, true] rfl rfl (by kernel_rfl) (fun _ _ _ h => h) (Or.inl ⟨by rfl, ?_⟩) ?_ ?_
              rotate_left
              · intro w'
                go_simp
                with_reducible rfl
              rotate_left
              · simp only [Act.put, nA, nB, nC, i64_w, i32_w]
                rfl
              try clear hHeld
              refine done_ (by kernel_rfl) ?_
              have hE2 := HE.out.post hRj hfpj hKj
              have hB2 := HB.out.post hfpj hKj HFW0.out
              have hfl := I.lt hE2.rep
              have hfw : ∀ k, fpj k → w.heap.size ≤ k := fun k hk => by have := (hfl k hk).1; omega
              have HE2 := Lib.hid hE2
              have HB2 := Lib.hid hB2
              have HFW := Lib.hid hfw
              have HFL := Lib.hid hfl
              clear hE2 hB2 hRj hfpj hKj hfw hfl HE HB HFW0 e1 e2 e3 e4 hbawr
              go_wp2_with fail
              go_loopw [13, 14, 15] (fun nv dv kv wi => ∃ (k : Nat) (fpk' : Nat → Prop), k ≤ kb + 1 ∧ kv = .int .i64 k ∧ nv = .int .i64 (soloS (heLin n s) E1 (q : Int) k).2.1 ∧ dv = .bool (soloS (heLin n s) E1 (q : Int) k).2.2 ∧ RunE (heRep n s) wj w3.heap.size fpj b (M + 1 + k) (soloS (heLin n s) E1 (q : Int) k).1 fpk' wi) (fun _ _ kv _ => 100000 - (intOf kv).toNat)
              case atStart => exact ⟨0, fpj, by omega, rfl, rfl, rfl, HE2.out.rep, fun _ _ => Iff.rfl, Keeps.refl _ _⟩
              case round =>
                obtain ⟨k, fpk', hk, rfl, rfl, rfl, hEk⟩ := hrel
                have dk : decide ((k : Int) < 100000) = true := decide_eq_true (by omega)
                by_cases hd : (soloS (heLin n s) E1 (q : Int) k).2.2 = true
                · rw [hd]
                  obtain ⟨hn1', hn2', hid', hinv', hle'⟩ := HEND.out k hd
                  rw [hn1']
                  have hE3 := HE2.out.post hEk.rep hEk.old hEk.keeps
                  have hB3 := HB2.out.post hEk.old hEk.keeps HFW.out
                  have hfw3 : ∀ k, fpk' k → w.heap.size ≤ k := fun k hk => by have := (I.lt hE3.rep k hk).1; omega
                  generalize (soloS (heLin n s) E1 (q : Int) k).1 = E2 at *
                  clear hEk hd hn1'
                  have HS := fun W v (h : Rd W v st.L) => Lib.hid (r_step (w := W) (vl := v) st ⟨oc, ox, oy⟩ h)
                  generalize stepS st ⟨oc, ox, oy⟩ = r at *
                  obtain ⟨⟨k', L', b', t'⟩, n'⟩ := r
                  simp only at hn2' HS ⊢
                  obtain ⟨aS, cS, hvs, -⟩ := id hB3.rd
                  subst hvs
                  have y0 := hB3.box.cell 0
                  have y1 := hB3.box.cell 1
                  have y2 := hB3.box.cell 2
                  have y3 := hB3.box.cell 3
                  simp at y0 y1 y2 y3
                  obtain ⟨x1, x2, x3, x4⟩ := HCW.out wr hB3.bel
                  have hbaw : ba < wr.heap.size := Nat.lt_of_lt_of_le hba hB3.bel.size
                  have hrdx : Rd wr (.slice aS st.L.length cS) st.L := hB3.rd
                  have hflt := I.lt hE3.rep
                  have hszw := hB3.size
                  have h4w := hE3.keeps.size
                  have HE3 := Lib.hid hE3
                  have HB3 := Lib.hid hB3
                  have HFW3 := Lib.hid hfw3
                  have HBE := Lib.hid hn2'
                  have HFLT := Lib.hid hflt
                  clear hE3 hB3 hfw3 hn2' hflt HEND HE2 HB2
                  go_wp2_with fail
                  refine start_ (n := 13) (S := fun w' => w'.cell? ⟨w4.heap.size, 0, none⟩ = some (.int .i64 st.kind) ∧ w'.cell? ⟨w4.heap.size, 1, none⟩ = some (.slice aS st.L.length cS) ∧ w'.cell? ⟨w4.heap.size, 2, none⟩ = some (.bool st.isSealed) ∧ w'.cell? ⟨w4.heap.size, 3, none⟩ = some (.int .i64 st.to) ∧ w'.cell? ⟨ba, oa + i * 5 + 2, none⟩ = some (.int .i64 oc) ∧ w'.cell? ⟨ba, oa + i * 5 + 3, none⟩ = some (.int .i64 ox) ∧ w'.cell? ⟨ba, oa + i * 5 + 4, none⟩ = some (.int .i64 oy)) (ds := [11]) #[false, false, false, false, false, false, false, false, false, false, false, false, false] (by kernel_rfl) rfl rfl ⟨y0, y1, y2, y3, x2, x3, x4⟩ (fun hHeld => ?_)
                  refine pure_ (i := 1) (N := some 89) (v := ?_) (a' := ?_) #[false, true, false, false, false, false, false, false, false, false, false, false, false] rfl rfl (by kernel_rfl) (fun _ _ _ h => h) (Or.inl ⟨by rfl, ?_⟩) ?_ ?_
                  rotate_left
                  · intro w'
                    go_simp
                    with_reducible rfl
                  rotate_left
                  · simp only [Act.put, nA, nB, nC, i64_w, i32_w]
                    rfl
                  refine pure_ (i := 2) (N := some 90) (v := ?_) (a' := ?_) #[false, true, true, false, false, false, false, false, false, false, false, false, false] rfl rfl (by kernel_rfl) (fun _ _ _ h => h) (Or.inl ⟨by rfl, ?_⟩) ?_ ?_
                  rotate_left
                  · intro w'
                    go_simp
                    with_reducible rfl
                  rotate_left
                  · simp only [Act.put, nA, nB, nC, i64_w, i32_w]
                    rfl
                  refine pure_ (i := 3) (N := some 91) (v := ?_) (a' := ?_) #[false, true, true, true, false, false, false, false, false, false, false, false, false] rfl rfl (by kernel_rfl) (fun _ _ _ h => h) (Or.inl ⟨by rfl, ?_⟩) ?_ ?_
                  rotate_left
                  · intro w'
                    go_simp
                    with_reducible rfl
                  rotate_left
                  · simp only [Act.put, nA, nB, nC, i64_w, i32_w]
                    rfl
                  refine pure_ (i := 4) (N := some 92) (v := ?_) (a' := ?_) #[false, true, true, true, true, false, false, false, false, false, false, false, false] rfl rfl (by kernel_rfl) (fun _ _ _ h => h) (Or.inl ⟨by rfl, ?_⟩) ?_ ?_
                  rotate_left
                  · intro w'
                    go_simp
                    with_reducible rfl
                  rotate_left
                  · simp only [Act.put, nA, nB, nC, i64_w, i32_w]
                    rfl
                  refine take_ (i := 0) (N := some 88) (v := ?_) (a' := ?_) #[true, true, true, true, true, false, false, false, false, false, false, false, false] rfl rfl (by kernel_rfl) (fun _ _ _ h => h) (Or.inl ⟨by rfl, ?_⟩) hHeld ?_ ?_
                  rotate_left
                  · rintro w' ⟨s0, s1, s2, s3, s4, s5, s6⟩
                    go_simp
                    with_reducible rfl
                  rotate_left
                  · simp only [Act.put, nA, nB, nC, i64_w, i32_w]
                    rfl
                  refine take_ (i := 5) (N := some 93) (v := ?_) (a' := ?_) #[true, true, true, true, true, true, false, false, false, false, false, false, false] rfl rfl (by kernel_rfl) (fun _ _ _ h => h) (Or.inl ⟨by rfl, ?_⟩) hHeld ?_ ?_
                  rotate_left
                  · rintro w' ⟨s0, s1, s2, s3, s4, s5, s6⟩
                    go_simp
                    with_reducible rfl
                  rotate_left
                  · simp only [Act.put, nA, nB, nC, i64_w, i32_w]
                    rfl
                  refine join_ (σ := Value × Nat) 2 #[true, true, true, true, true, true, true, true, true, true, true, false, false] (fun s => [(94, .tuple #[.agg #[.int .i64 k', s.1, .bool b', .int .i64 t'], .int .i64 n']), (16, .pointer (some ⟨s.2, 0, none⟩)), (87, .tuple #[.agg #[.int .i64 k', s.1, .bool b', .int .i64 t'], .int .i64 n']), (95, .agg #[.int .i64 k', s.1, .bool b', .int .i64 t']), (96, .int .i64 n')]) (fun s w' => StepT wr.drew (.slice aS st.L.length cS) (⟨⟨k', L', b', t'⟩, n'⟩ : St × Int) s.1 s.2 w') ?_ ?_
                  rotate_left
                  · intro hCont
                    refine two_ (i := 6) (j := 10) (Ni := some 94) (Nj := some 16) #[true, true, true, true, true, true, true, false, false, false, false, false, false] #[true, true, true, true, true, true, false, false, false, false, true, false, false] rfl rfl rfl rfl (by kernel_rfl) (by decide) (by decide) (fun K hK => ?_) (fun K hK => ?_)
                    · skip
                      refine goes_ Try.func18 (by kernel_rfl) rfl #[.agg #[.int .i64 st.kind, .slice aS st.L.length cS, .bool st.isSealed, .int .i64 st.to], .agg #[.int .i64 oc, .int .i64 ox, .int .i64 oy]] (by rfl) rfl rfl (by simp only [List.map_toArray, List.map_cons, List.map_nil]; rfl) ?_
                      with_reducible refine ((HS wr.drew _ hrdx.drew).out).mono ?_
                      rintro e w4 ⟨vn, rfl, hrd4, hb4, ho4⟩
                      refine ⟨_, rfl, ?_⟩
                      have K4 := Keeps.ofBelow (F := fun _ => False) hb4
                      try clear hHeld
                      refine hK.out _ _ ⟨(K4.cellSome (fun h => h) y0), (K4.cellSome (fun h => h) y1), (K4.cellSome (fun h => h) y2), (K4.cellSome (fun h => h) y3), (K4.cellSome (fun h => h) x2), (K4.cellSome (fun h => h) x3), (K4.cellSome (fun h => h) x4)⟩ (fun hHeld => ?_)
                      clear hK K
                      refine norm_ (a' := ?_) ?_ ?_
                      rotate_left
                      · show Act.put _ (some 94) _ = _
                        simp only [Act.put, nA, nB, nC, i64_w, i32_w]
                        rfl
                      refine pure_ (i := 7) (N := some 87) (v := ?_) (a' := ?_) #[true, true, true, true, true, true, true, true, false, false, false, false, false] rfl rfl (by kernel_rfl) (fun _ _ _ h => h) (Or.inl ⟨by rfl, ?_⟩) ?_ ?_
                      rotate_left
                      · intro w'
                        go_simp
                        with_reducible rfl
                      rotate_left
                      · simp only [Act.put, nA, nB, nC, i64_w, i32_w]
                        rfl
                      refine pure_ (i := 8) (N := some 95) (v := ?_) (a' := ?_) #[true, true, true, true, true, true, true, true, true, false, false, false, false] rfl rfl (by kernel_rfl) (fun _ _ _ h => h) (Or.inl ⟨by rfl, ?_⟩) ?_ ?_
                      rotate_left
                      · intro w'
                        go_simp
                        with_reducible rfl
                      rotate_left
                      · simp only [Act.put, nA, nB, nC, i64_w, i32_w]
                        rfl
                      refine pure_ (i := 9) (N := some 96) (v := ?_) (a' := ?_) #[true, true, true, true, true, true, true, true, true, true, false, false, false] rfl rfl (by kernel_rfl) (fun _ _ _ h => h) (Or.inl ⟨by rfl, ?_⟩) ?_ ?_
                      rotate_left
                      · intro w'
                        go_simp
                        with_reducible rfl
                      rotate_left
                      · simp only [Act.put, nA, nB, nC, i64_w, i32_w]
                        rfl
                      refine one_ (i := 10) (N := some 16) #[true, true, true, true, true, true, true, true, true, true, true, false, false] rfl rfl (by kernel_rfl) (by decide) (fun K hK => ?_)
                      refine value_ (w1 := ?_) (v := ?_) (by rfl) rfl ?_ ?_
                      rotate_left 2
                      · go_simp
                        constructor
                        · rfl
                        · rfl
                      have Ka : Keeps (fun _ => False) w4 (w4.alloc (.cells #[.int .i64 0, .slice none 0 0, .bool false, .int .i64 0] 24)) := ((Keeps.refl _ _).alloc _)
                      try clear hHeld
                      refine hK.out _ _ ⟨(Ka.cellSome (fun h => h) (K4.cellSome (fun h => h) y0)), (Ka.cellSome (fun h => h) (K4.cellSome (fun h => h) y1)), (Ka.cellSome (fun h => h) (K4.cellSome (fun h => h) y2)), (Ka.cellSome (fun h => h) (K4.cellSome (fun h => h) y3)), (Ka.cellSome (fun h => h) (K4.cellSome (fun h => h) x2)), (Ka.cellSome (fun h => h) (K4.cellSome (fun h => h) x3)), (Ka.cellSome (fun h => h) (K4.cellSome (fun h => h) x4))⟩ (fun hHeld => ?_)
                      clear hK K
                      refine norm_ (a' := ?_) ?_ ?_
                      rotate_left
                      · show Act.put _ (some 16) _ = _
                        simp only [Act.put, nA, nB, nC, i64_w, i32_w]
                        rfl
                      exact norm_ (by simp only [putAll, Act.put, nA, nB, nC]) (hCont ⟨vn, w4.heap.size⟩ _ (StepT.one (r := (⟨⟨k', L', b', t'⟩, n'⟩ : St × Int)) hrd4 hb4 ho4))
                    · skip
                      refine value_ (w1 := ?_) (v := ?_) (by rfl) rfl ?_ ?_
                      rotate_left 2
                      · go_simp
                        constructor
                        · rfl
                        · rfl
                      have Ka : Keeps (fun _ => False) wr (wr.alloc (.cells #[.int .i64 0, .slice none 0 0, .bool false, .int .i64 0] 24)).drew := ((Keeps.refl _ _).alloc _).drew
                      try clear hHeld
                      refine hK.out _ _ ⟨(Ka.cellSome (fun h => h) y0), (Ka.cellSome (fun h => h) y1), (Ka.cellSome (fun h => h) y2), (Ka.cellSome (fun h => h) y3), (Ka.cellSome (fun h => h) x2), (Ka.cellSome (fun h => h) x3), (Ka.cellSome (fun h => h) x4)⟩ (fun hHeld => ?_)
                      clear hK K
                      refine norm_ (a' := ?_) ?_ ?_
                      rotate_left
                      · show Act.put _ (some 16) _ = _
                        simp only [Act.put, nA, nB, nC, i64_w, i32_w]
                        rfl
                      refine one_ (i := 6) (N := some 94) #[true, true, true, true, true, true, true, false, false, false, true, false, false] rfl rfl (by kernel_rfl) (by decide) (fun K hK => ?_)
                      refine goes_ Try.func18 (by kernel_rfl) rfl #[.agg #[.int .i64 st.kind, .slice aS st.L.length cS, .bool st.isSealed, .int .i64 st.to], .agg #[.int .i64 oc, .int .i64 ox, .int .i64 oy]] (by rfl) rfl rfl (by simp only [List.map_toArray, List.map_cons, List.map_nil]; rfl) ?_
                      with_reducible refine ((HS (wr.alloc (.cells #[.int .i64 0, .slice none 0 0, .bool false, .int .i64 0] 24)).drew _ (hrdx.alloc (.cells #[.int .i64 0, .slice none 0 0, .bool false, .int .i64 0] 24)).drew).out).mono ?_
                      rintro e w4 ⟨vn, rfl, hrd4, hb4, ho4⟩
                      refine ⟨_, rfl, ?_⟩
                      have K4 := Keeps.ofBelow (F := fun _ => False) hb4
                      try clear hHeld
                      refine hK.out _ _ ⟨(K4.cellSome (fun h => h) (Ka.cellSome (fun h => h) y0)), (K4.cellSome (fun h => h) (Ka.cellSome (fun h => h) y1)), (K4.cellSome (fun h => h) (Ka.cellSome (fun h => h) y2)), (K4.cellSome (fun h => h) (Ka.cellSome (fun h => h) y3)), (K4.cellSome (fun h => h) (Ka.cellSome (fun h => h) x2)), (K4.cellSome (fun h => h) (Ka.cellSome (fun h => h) x3)), (K4.cellSome (fun h => h) (Ka.cellSome (fun h => h) x4))⟩ (fun hHeld => ?_)
                      clear hK K
                      refine norm_ (a' := ?_) ?_ ?_
                      rotate_left
                      · show Act.put _ (some 94) _ = _
                        simp only [Act.put, nA, nB, nC, i64_w, i32_w]
                        rfl
                      refine pure_ (i := 7) (N := some 87) (v := ?_) (a' := ?_) #[true, true, true, true, true, true, true, true, false, false, true, false, false] rfl rfl (by kernel_rfl) (fun _ _ _ h => h) (Or.inl ⟨by rfl, ?_⟩) ?_ ?_
                      rotate_left
                      · intro w'
                        go_simp
                        with_reducible rfl
                      rotate_left
                      · simp only [Act.put, nA, nB, nC, i64_w, i32_w]
                        rfl
                      refine pure_ (i := 8) (N := some 95) (v := ?_) (a' := ?_) #[true, true, true, true, true, true, true, true, true, false, true, false, false] rfl rfl (by kernel_rfl) (fun _ _ _ h => h) (Or.inl ⟨by rfl, ?_⟩) ?_ ?_
                      rotate_left
                      · intro w'
                        go_simp
                        with_reducible rfl
                      rotate_left
                      · simp only [Act.put, nA, nB, nC, i64_w, i32_w]
                        rfl
                      refine pure_ (i := 9) (N := some 96) (v := ?_) (a' := ?_) #[true, true, true, true, true, true, true, true, true, true, true, false, false] rfl rfl (by kernel_rfl) (fun _ _ _ h => h) (Or.inl ⟨by rfl, ?_⟩) ?_ ?_
                      rotate_left
                      · intro w'
                        go_simp
                        with_reducible rfl
                      rotate_left
                      · simp only [Act.put, nA, nB, nC, i64_w, i32_w]
                        rfl
                      exact norm_ (by simp only [putAll, Act.put, nA, nB, nC]) (hCont ⟨vn, wr.heap.size⟩ _ (StepT.two (r := (⟨⟨k', L', b', t'⟩, n'⟩ : St × Int)) hrd4 hb4 ho4))
                  rintro ⟨vn, g⟩ w5 hT5
                  obtain ⟨aN, cN, hvn, -⟩ := id hT5.rd
                  simp only at hvn
                  subst hvn
                  have K5 := Keeps.ofBelow (F := fun _ => False) hT5.bel
                  have hHeld : w5.cell? ⟨w4.heap.size, 0, none⟩ = some (.int .i64 st.kind) ∧ w5.cell? ⟨w4.heap.size, 1, none⟩ = some (.slice aS st.L.length cS) ∧ w5.cell? ⟨w4.heap.size, 2, none⟩ = some (.bool st.isSealed) ∧ w5.cell? ⟨w4.heap.size, 3, none⟩ = some (.int .i64 st.to) ∧ w5.cell? ⟨ba, oa + i * 5 + 2, none⟩ = some (.int .i64 oc) ∧ w5.cell? ⟨ba, oa + i * 5 + 3, none⟩ = some (.int .i64 ox) ∧ w5.cell? ⟨ba, oa + i * 5 + 4, none⟩ = some (.int .i64 oy) := ⟨(K5.cellSome (fun h => h) y0), (K5.cellSome (fun h => h) y1), (K5.cellSome (fun h => h) y2), (K5.cellSome (fun h => h) y3), (K5.cellSome (fun h => h) x2), (K5.cellSome (fun h => h) x3), (K5.cellSome (fun h => h) x4)⟩
                  have g0 := hT5.box.cell 0
                  have g1 := hT5.box.cell 1
                  have g2 := hT5.box.cell 2
                  have g3 := hT5.box.cell 3
                  simp at g0 g1 g2 g3
                  have gf0 := hT5.box.frozen 0
                  have gf1 := hT5.box.frozen 1
                  have gf2 := hT5.box.frozen 2
                  have gf3 := hT5.box.frozen 3
                  refine norm_ (a' := ?_) ?_ ?_
                  rotate_left
                  · simp only [putAll, Act.put, nA, nB, nC]
                    rfl
                  refine last_ (i := 11) (N := none) #[true, true, true, true, true, true, true, true, true, true, true, true, false] rfl rfl (by kernel_rfl) (by decide) (fun K hK => ?_)
                  refine skip_ (w1 := ?_) (by rfl) rfl ?_ ?_
                  rotate_left
                  · go_simp
                    rfl
                  try clear hHeld
                  refine hK.out _ _ ?_
                  clear hK K
                  refine pure_ (i := 12) (N := some 17) (v := ?_) (a' := ?_) #[true, true, true, true, true, true, true, true, true, true, true, true, true] rfl rfl (by kernel_rfl) (fun _ _ _ h => h) (Or.inl ⟨by rfl, ?_⟩) ?_ ?_
                  rotate_left
                  · intro w'
                    go_simp
                    with_reducible rfl
                  rotate_left
                  · simp only [Act.put, nA, nB, nC, i64_w, i32_w]
                    rfl
                  try clear hHeld
                  refine done_ (by kernel_rfl) ?_
                  have kG : Keeps (fun j => j = g) w5 ((((w5.setCell ⟨g, 0, none⟩ (.int .i64 k')).setCell ⟨g, 1, none⟩ (.slice aN L'.length cN)).setCell ⟨g, 2, none⟩ (.bool b')).setCell ⟨g, 3, none⟩ (.int .i64 t')) := res_keeps w5 g _ _ _ _
                  have bG : Blk ((((w5.setCell ⟨g, 0, none⟩ (.int .i64 k')).setCell ⟨g, 1, none⟩ (.slice aN L'.length cN)).setCell ⟨g, 2, none⟩ (.bool b')).setCell ⟨g, 3, none⟩ (.int .i64 t')) g #[.int .i64 k', .slice aN L'.length cN, .bool b', .int .i64 t'] 24 := (((hT5.box.set 0 _).set 1 _).set 2 _).set 3 _
                  generalize ((((w5.setCell ⟨g, 0, none⟩ (.int .i64 k')).setCell ⟨g, 1, none⟩ (.slice aN L'.length cN)).setCell ⟨g, 2, none⟩ (.bool b')).setCell ⟨g, 3, none⟩ (.int .i64 t')) = w6 at *
                  have hgw : wr.heap.size ≤ g := hT5.new.1
                  have bB : Blk w6 w4.heap.size #[.int .i64 st.kind, .slice aS st.L.length cS, .bool st.isSealed, .int .i64 st.to] 24 := (HB3.out.box.drew.keeps K5 (fun h => h)).keeps kG (by omega)
                  have hown6 : 0 < L'.length → ∀ j, (Value.slice aN L'.length cN).ownBlock = some j → (j < w.heap.size ∨ w4.heap.size + 1 ≤ j) ∧ ¬ fpk' j ∧ j ≠ g := by
                    intro h0 j hj
                    rcases hT5.own with e | h
                    · have e' : L'.length = st.L.length := rd_len2 (e ▸ hT5.rd) HB3.out.rd
                      have hj' : (Value.slice aS st.L.length cS).ownBlock = some j := e ▸ hj
                      have h00 : 0 < st.L.length := by omega
                      have h1 := HB3.out.own h00 j hj'
                      have h2 := rd_lt HB3.out.rd h00 hj'
                      exact ⟨h1.1, h1.2, by omega⟩
                    · have h1 := h j hj
                      have h2 : wr.heap.size ≤ j := h1.1
                      exact ⟨.inr (by omega), fun e => by have := (HFLT.out j e).2; omega, h1.2.2⟩
                  have hrd6 : Rd w6 (.slice aN L'.length cN) L' := rd_keeps' hT5.rd kG (fun h0 j hj e => (hown6 h0 j hj).2.2 e)
                  have kX6 : Keeps (fun k => k = w4.heap.size ∨ wr.heap.size ≤ k) wr w6 := (((Keeps.refl (fun k => k = w4.heap.size ∨ wr.heap.size ≤ k) wr).drew).trans' (K5.mono (fun _ h => h.elim))).trans' (kG.mono (fun j h => .inr (by omega)))
                  have g0 := bG.cell 0
                  have g1 := bG.cell 1
                  have g2 := bG.cell 2
                  have g3 := bG.cell 3
                  have z0 := bB.cell 0
                  have z1 := bB.cell 1
                  have z2 := bB.cell 2
                  have z3 := bB.cell 3
                  simp at g0 g1 g2 g3 z0 z1 z2 z3
                  have zf0 := bB.frozen 0
                  have zf1 := bB.frozen 1
                  have zf2 := bB.frozen 2
                  have zf3 := bB.frozen 3
                  have hgn : g ≠ w4.heap.size := by omega
                  have hgn' : w4.heap.size ≠ g := by omega
                  have HBB := Lib.hid bB
                  have HW6 := Lib.hid hown6
                  have HRD6 := Lib.hid hrd6
                  have HK6 := Lib.hid kX6
                  clear kG bG bB hown6 hrd6 kX6 hT5 K5 gf0 gf1 gf2 gf3 y0 y1 y2 y3 x1 x2 x3 x4 hrdx HS
                  go_wp2_with fail
                  have kB : Keeps (fun j => j = w4.heap.size) w6 ((((w6.setCell ⟨w4.heap.size, 0, none⟩ (.int .i64 k')).setCell ⟨w4.heap.size, 1, none⟩ (.slice aN L'.length cN)).setCell ⟨w4.heap.size, 2, none⟩ (.bool b')).setCell ⟨w4.heap.size, 3, none⟩ (.int .i64 t')) := res_keeps w6 w4.heap.size _ _ _ _
                  have bX : Blk ((((w6.setCell ⟨w4.heap.size, 0, none⟩ (.int .i64 k')).setCell ⟨w4.heap.size, 1, none⟩ (.slice aN L'.length cN)).setCell ⟨w4.heap.size, 2, none⟩ (.bool b')).setCell ⟨w4.heap.size, 3, none⟩ (.int .i64 t')) w4.heap.size #[.int .i64 k', .slice aN L'.length cN, .bool b', .int .i64 t'] 24 := (((HBB.out.set 0 _).set 1 _).set 2 _).set 3 _
                  generalize ((((w6.setCell ⟨w4.heap.size, 0, none⟩ (.int .i64 k')).setCell ⟨w4.heap.size, 1, none⟩ (.slice aN L'.length cN)).setCell ⟨w4.heap.size, 2, none⟩ (.bool b')).setCell ⟨w4.heap.size, 3, none⟩ (.int .i64 t')) = w7 at *
                  have kX : Keeps (fun k => k = w4.heap.size ∨ wr.heap.size ≤ k) wr w7 := HK6.out.trans' (kB.mono (fun j h => .inl h))
                  have hE7 := HE3.out.mine I hbw kX (fun k hk => by rcases hk with rfl | hk; exact ⟨HB3.out.nob, Nat.le_refl _⟩; exact ⟨fun h => by have := (HFLT.out k h).2; omega, by omega⟩)
                  have hB7 : BoxM w w4.heap.size ⟨k', L', b', t'⟩ (.slice aN L'.length cN) fpk' w7 := ⟨HB3.out.bel.trans (kX.below (fun k hk => by have := HB3.out.lo; have := HB3.out.bel.size; omega) HB3.out.bel.size), Nat.le_trans HB3.out.size kX.size, HB3.out.lo, bX, HB3.out.nob, rd_keeps' HRD6.out kB (fun h0 j hj e => by have := (HW6.out h0 j hj).1; have := HB3.out.lo; omega), fun h0 j hj => ⟨(HW6.out h0 j hj).1, (HW6.out h0 j hj).2.1⟩⟩
                  have y0 := bX.cell 0
                  have y1 := bX.cell 1
                  have y2 := bX.cell 2
                  have y3 := bX.cell 3
                  simp at y0 y1 y2 y3
                  have hE7d := hE7.mine I hbw ((Keeps.refl (fun _ => False) w7).drew) (fun _ h => h.elim)
                  have HSX := Lib.hid (I.state hE7d.rep (by omega))
                  have HBX := Lib.hid hB7
                  have HEX := Lib.hid hE7d
                  have HNB := Lib.hid HB3.out.nob
                  clear kB bX kX hE7 hB7 hE7d g0 g1 g2 g3 z0 z1 z2 z3 zf0 zf1 zf2 zf3 hgn hgn' HBB HW6 HRD6 HK6 HB3 HE3
                  go_wp2_with fail
                  refine start_ (n := 5) (S := fun w' => w'.cell? ⟨w4.heap.size, 0, none⟩ = some (.int .i64 k') ∧ w'.cell? ⟨w4.heap.size, 1, none⟩ = some (.slice aN L'.length cN) ∧ w'.cell? ⟨w4.heap.size, 2, none⟩ = some (.bool b') ∧ w'.cell? ⟨w4.heap.size, 3, none⟩ = some (.int .i64 t')) (ds := [3]) #[false, false, false, false, false] (by kernel_rfl) rfl rfl ⟨y0, y1, y2, y3⟩ (fun hHeld => ?_)
                  refine pure_ (i := 0) (N := some 98) (v := ?_) (a' := ?_) #[true, false, false, false, false] rfl rfl (by kernel_rfl) (fun _ _ _ h => h) (Or.inl ⟨by rfl, ?_⟩) ?_ ?_
                  rotate_left
                  · intro w'
                    go_simp
                    with_reducible rfl
                  rotate_left
                  · simp only [Act.put, nA, nB, nC, i64_w, i32_w]
                    rfl
                  refine take_ (i := 2) (N := some 100) (v := ?_) (a' := ?_) #[true, false, true, false, false] rfl rfl (by kernel_rfl) (fun _ _ _ h => h) (Or.inl ⟨by rfl, ?_⟩) hHeld ?_ ?_
                  rotate_left
                  · rintro w' ⟨s0, s1, s2, s3⟩
                    go_simp
                    with_reducible rfl
                  rotate_left
                  · simp only [Act.put, nA, nB, nC, i64_w, i32_w]
                    rfl
                  refine one_ (i := 1) (N := some 99) #[true, true, true, false, false] rfl rfl (by kernel_rfl) (by decide) (fun K hK => ?_)
                  refine goes_ Try.func31 (by kernel_rfl) rfl #[.pointer (some ⟨b, 0, none⟩)] (by rfl) rfl rfl (by simp only [List.map_toArray, List.map_cons, List.map_nil]; rfl) ?_
                  with_reducible refine (HSX.out).mono ?_
                  rintro e w8 ⟨v8, s8, hs8, -, rfl, hO8, fp8, hR8, hfp8, hK8⟩
                  refine ⟨_, rfl, ?_⟩
                  have hB8 := HBX.out.drewB.post hfp8 hK8 HFW3.out
                  have HSM := r_same s8 ⟨k', L', b', t'⟩ hO8 hB8.rd
                  have e8 : sameB s8 ⟨k', L', b', t'⟩ = true := (by rw [hs8.trans HBE.out]; exact sameB_refl _)
                  rw [e8] at HSM
                  try clear hHeld
                  refine hK.out _ _ ⟨(hK8.cellSome HNB.out y0), (hK8.cellSome HNB.out y1), (hK8.cellSome HNB.out y2), (hK8.cellSome HNB.out y3)⟩ (fun hHeld => ?_)
                  clear hK K
                  refine norm_ (a' := ?_) ?_ ?_
                  rotate_left
                  · show Act.put _ (some 99) _ = _
                    simp only [Act.put, nA, nB, nC, i64_w, i32_w]
                    rfl
                  refine last_ (i := 3) (N := some 101) #[true, true, true, true, false] rfl rfl (by kernel_rfl) (by decide) (fun K hK => ?_)
                  refine goes_ Try.func19 (by kernel_rfl) rfl #[stV s8 v8, stV ⟨k', L', b', t'⟩ (.slice aN L'.length cN)] (by rfl) rfl rfl (by simp only [List.map_toArray, List.map_cons, List.map_nil]; rfl) ?_
                  with_reducible refine (HSM).mono ?_
                  rintro e w9 ⟨rfl, hb9⟩
                  refine ⟨_, rfl, ?_⟩
                  try clear hHeld
                  refine hK.out _ _ ?_
                  clear hK K
                  refine norm_ (a' := ?_) ?_ ?_
                  rotate_left
                  · show Act.put _ (some 101) _ = _
                    simp only [Act.put, nA, nB, nC, i64_w, i32_w]
                    rfl
                  refine pure_ (i := 4) (N := some 18) (v := ?_) (a' := ?_) #[true, true, true, true, true] rfl rfl (by kernel_rfl) (fun _ _ _ h => h) (Or.inl ⟨by rfl, ?_⟩) ?_ ?_
                  rotate_left
                  · intro w'
                    go_simp
                    with_reducible rfl
                  rotate_left
                  · simp only [Act.put, nA, nB, nC, i64_w, i32_w]
                    rfl
                  try clear hHeld
                  refine done_ (by kernel_rfl) ?_
                  have hE8 := HEX.out.post hR8 hfp8 hK8
                  have hB9 : BoxM w w4.heap.size ⟨k', L', b', t'⟩ (.slice aN L'.length cN) fp8 w9 := hB8.grow hb9
                  have hE9 := hE8.mine I hbw (Keeps.ofBelow (F := fun k => w8.heap.size ≤ k) hb9) (fun k hk => ⟨fun h => by have := (I.lt hE8.rep k h).2; omega, by have := hE8.keeps.size; omega⟩)
                  have hbf : decide (0 ≤ (q : Int) ∧ (q : Int) < (heLin n s).n ∧ (heLin n s).busy E2 (q : Int).toNat = true) = false := decide_eq_false (fun h => by have h1 := h.2.2; rw [Int.toNat_natCast, hid' q hq] at h1; cases h1)
                  have HBU := Lib.hid (I.busy hE9.rep (by omega) (q : Int))
                  rw [hbf] at HBU
                  obtain ⟨u1, -⟩ := HCW.out w9 hB9.bel
                  have hbaw9 : ba < w9.heap.size := Nat.lt_of_lt_of_le hba hB9.bel.size
                  have hfw9 : ∀ k, fp8 k → w.heap.size ≤ k := fun k hk => by have := (I.lt hE9.rep k hk).1; omega
                  have HE9 := Lib.hid hE9
                  have HB9 := Lib.hid hB9
                  have HFW9 := Lib.hid hfw9
                  clear hE8 hB8 hB9 hE9 hbf hR8 hfp8 hK8 hb9 HSM hs8 e8 hO8 hfw9 HSX HBX HEX y0 y1 y2 y3
                  go_wp2_with (go_at_call 35; refine HBU.out.mono ?_; rintro e wz ⟨rfl, fpz, hRz, hfpz, hKz⟩; have HRz := Lib.hid (HE9.out.post hRz hfpz hKz); have HBz := Lib.hid (HB9.out.post hfpz hKz HFW9.out); clear hRz hfpz hKz)
                  go_roundw
                  case rel => exact ⟨i + 1, M + 1 + k, E2, ⟨k', L', b', t'⟩, .slice aN L'.length cN, fpz, by omega, by go_num, by omega, HRz.out, HBz.out, hid', HBE.out, by omega⟩
                  case measure => simp [intOf]; omega
                · have hd' : (soloS (heLin n s) E1 (q : Int) k).2.2 = false := by simpa using hd
                  have hkB : k < kb + 1 := by
                    rcases Nat.lt_or_ge k (kb + 1) with h | h
                    · exact h
                    · have := solo_stay (heLin n s) E1 (q : Int) HDONE.out k h
                      rw [this] at hd
                      exact absurd HDONE.out hd
                  have hnext : soloS (heLin n s) E1 (q : Int) (k + 1) = stpI (heLin n s) (soloS (heLin n s) E1 (q : Int) k).1 (q : Int) := by
                    conv => lhs; unfold soloS
                    rw [if_neg hd]
                  have HS := Lib.hid (I.step hEk.rep (by omega) (q : Int))
                  rw [← hnext] at HS
                  have hB3 := HB2.out.post hEk.old hEk.keeps HFW.out
                  obtain ⟨e1, -⟩ := HCW.out wr hB3.bel
                  have HEK := Lib.hid hEk
                  have k64 : IntKind.i64.wrap ((k : Int) + 1) = (k : Int) + 1 := IntWalk.i64_in _ (by omega)
                  rw [hd']
                  clear hnext hEk hB3 hd
                  go_wp2_with (go_at_call 34; refine HS.out.mono ?_; rintro e wk ⟨rfl, fp3, hR3, hfp3, hK3⟩; have HR3 := Lib.hid hR3; have HF3 := Lib.hid hfp3; have HK3 := Lib.hid hK3; clear hR3 hfp3 hK3)
                  go_roundw
                  case rel => exact ⟨k + 1, fp3, by omega, by go_num, rfl, rfl, HEK.out.post HR3.out HF3.out HK3.out⟩
                  case measure => simp [intOf]; omega
            · have hii : invI (heLin n s) E pp ⟨oc, ox, oy⟩ = E := by unfold invI; rw [if_neg hc]
              rw [hii] at HI0
              have hcv : (codeI (heLin n s) E pp ⟨oc, ox, oy⟩ != 0) = true := by simpa using hc
              clear hc hii
              generalize codeI (heLin n s) E pp ⟨oc, ox, oy⟩ = cv at *
              go_wp2_with fail
              refine start_ (n := 13) (S := fun w' => w'.cell? ⟨ba, oa + i * 5 + 1, none⟩ = some (.int .i64 pp) ∧ w'.cell? ⟨ba, oa + i * 5 + 2, none⟩ = some (.int .i64 oc) ∧ w'.cell? ⟨ba, oa + i * 5 + 3, none⟩ = some (.int .i64 ox) ∧ w'.cell? ⟨ba, oa + i * 5 + 4, none⟩ = some (.int .i64 oy)) (ds := [11]) #[false, false, false, false, false, false, false, false, false, false, false, false, false] (by kernel_rfl) rfl rfl ⟨e1, e2, e3, e4⟩ (fun hHeld => ?_)
              refine pure_ (i := 0) (N := some 56) (v := ?_) (a' := ?_) #[true, false, false, false, false, false, false, false, false, false, false, false, false] rfl rfl (by kernel_rfl) (fun _ _ _ h => h) (Or.inl ⟨by rfl, ?_⟩) ?_ ?_
              rotate_left
              · intro w'
                go_simp
                with_reducible rfl
              rotate_left
              · simp only [Act.put, nA, nB, nC, i64_w, i32_w]
                rfl
              refine pure_ (i := 1) (N := some 57) (v := ?_) (a' := ?_) #[true, true, false, false, false, false, false, false, false, false, false, false, false] rfl rfl (by kernel_rfl) (fun _ _ _ h => h) (Or.inl ⟨by rfl, ?_⟩) ?_ ?_
              rotate_left
              · intro w'
                go_simp
                with_reducible rfl
              rotate_left
              · simp only [Act.put, nA, nB, nC, i64_w, i32_w]
                rfl
              refine pure_ (i := 2) (N := some 58) (v := ?_) (a' := ?_) #[true, true, true, false, false, false, false, false, false, false, false, false, false] rfl rfl (by kernel_rfl) (fun _ _ _ h => h) (Or.inl ⟨by rfl, ?_⟩) ?_ ?_
              rotate_left
              · intro w'
                go_simp
                with_reducible rfl
              rotate_left
              · simp only [Act.put, nA, nB, nC, i64_w, i32_w]
                rfl
              refine pure_ (i := 3) (N := some 59) (v := ?_) (a' := ?_) #[true, true, true, true, false, false, false, false, false, false, false, false, false] rfl rfl (by kernel_rfl) (fun _ _ _ h => h) (Or.inl ⟨by rfl, ?_⟩) ?_ ?_
              rotate_left
              · intro w'
                go_simp
                with_reducible rfl
              rotate_left
              · simp only [Act.put, nA, nB, nC, i64_w, i32_w]
                rfl
              refine pure_ (i := 4) (N := some 60) (v := ?_) (a' := ?_) #[true, true, true, true, true, false, false, false, false, false, false, false, false] rfl rfl (by kernel_rfl) (fun _ _ _ h => h) (Or.inl ⟨by rfl, ?_⟩) ?_ ?_
              rotate_left
              · intro w'
                go_simp
                with_reducible rfl
              rotate_left
              · simp only [Act.put, nA, nB, nC, i64_w, i32_w]
                rfl
              refine pure_ (i := 6) (N := some 62) (v := ?_) (a' := ?_) #[true, true, true, true, true, false, true, false, false, false, false, false, false] rfl rfl (by kernel_rfl) (fun _ _ _ h => h) (Or.inl ⟨by rfl, ?_⟩) ?_ ?_
              rotate_left
              · intro w'
                go_simp
                with_reducible rfl
              rotate_left
              · simp only [Act.put, nA, nB, nC, i64_w, i32_w]
                rfl
              refine pure_ (i := 7) (N := some 63) (v := ?_) (a' := ?_) #[true, true, true, true, true, false, true, true, false, false, false, false, false] rfl rfl (by kernel_rfl) (fun _ _ _ h => h) (Or.inl ⟨by rfl, ?_⟩) ?_ ?_
              rotate_left
              · intro w'
                go_simp
                with_reducible rfl
              rotate_left
              · simp only [Act.put, nA, nB, nC, i64_w, i32_w]
                rfl
              refine pure_ (i := 8) (N := some 64) (v := ?_) (a' := ?_) #[true, true, true, true, true, false, true, true, true, false, false, false, false] rfl rfl (by kernel_rfl) (fun _ _ _ h => h) (Or.inl ⟨by rfl, ?_⟩) ?_ ?_
              rotate_left
              · intro w'
                go_simp
                with_reducible rfl
              rotate_left
              · simp only [Act.put, nA, nB, nC, i64_w, i32_w]
                rfl
              refine pure_ (i := 9) (N := some 65) (v := ?_) (a' := ?_) #[true, true, true, true, true, false, true, true, true, true, false, false, false] rfl rfl (by kernel_rfl) (fun _ _ _ h => h) (Or.inl ⟨by rfl, ?_⟩) ?_ ?_
              rotate_left
              · intro w'
                go_simp
                with_reducible rfl
              rotate_left
              · simp only [Act.put, nA, nB, nC, i64_w, i32_w]
                rfl
              refine take_ (i := 5) (N := some 61) (v := ?_) (a' := ?_) #[true, true, true, true, true, true, true, true, true, true, false, false, false] rfl rfl (by kernel_rfl) (fun _ _ _ h => h) (Or.inl ⟨by rfl, ?_⟩) hHeld ?_ ?_
              rotate_left
              · rintro w' ⟨s0, s1, s2, s3⟩
                go_simp
                with_reducible rfl
              rotate_left
              · simp only [Act.put, nA, nB, nC, i64_w, i32_w]
                rfl
              refine take_ (i := 10) (N := some 66) (v := ?_) (a' := ?_) #[true, true, true, true, true, true, true, true, true, true, true, false, false] rfl rfl (by kernel_rfl) (fun _ _ _ h => h) (Or.inl ⟨by rfl, ?_⟩) hHeld ?_ ?_
              rotate_left
              · rintro w' ⟨s0, s1, s2, s3⟩
                go_simp
                with_reducible rfl
              rotate_left
              · simp only [Act.put, nA, nB, nC, i64_w, i32_w]
                rfl
              refine last_ (i := 11) (N := some 67) #[true, true, true, true, true, true, true, true, true, true, true, true, false] rfl rfl (by kernel_rfl) (by decide) (fun K hK => ?_)
              refine goes_ Try.func33 (by kernel_rfl) rfl #[.pointer (some ⟨b, 0, none⟩), .int .i64 pp, .agg #[.int .i64 oc, .int .i64 ox, .int .i64 oy]] (by rfl) rfl rfl (by simp only [List.map_toArray, List.map_cons, List.map_nil]; rfl) ?_
              with_reducible refine (HI0.out).mono ?_
              rintro e wj ⟨rfl, fpj, hRj, hfpj, hKj⟩
              refine ⟨_, rfl, ?_⟩
              try clear hHeld
              refine hK.out _ _ ?_
              clear hK K
              refine norm_ (a' := ?_) ?_ ?_
              rotate_left
              · show Act.put _ (some 67) _ = _
                simp only [Act.put, nA, nB, nC, i64_w, i32_w]
                rfl
              refine pure_ (i := 12) (N := some 68) (v := ?_) (a' := ?_) #[true, true, true, true, true, true, true, true, true, true, true, true, true] rfl rfl (by kernel_rfl) (fun _ _ _ h => h) (Or.inl ⟨by rfl, ?_⟩) ?_ ?_
              rotate_left
              · intro w'
                go_simp
                with_reducible rfl
              rotate_left
              · simp only [Act.put, nA, nB, nC, i64_w, i32_w]
                rfl
              try clear hHeld
              refine done_ (by kernel_rfl) ?_
              have HR := Lib.hid (HE.out.post hRj hfpj hKj)
              have HBB := Lib.hid (HB.out.post hfpj hKj HFW0.out)
              clear hRj hfpj hKj
              go_wp2_with fail
              go_roundw
              case rel => exact ⟨i + 1, M + 1, E, st, vs, fpj, by omega, by go_num, by omega, HR.out, HBB.out, hid, hbe, by omega⟩
              case measure => simp [intOf]; omega
          · have hil : i = len := by omega
            subst hil
            have d0 : decide ((i : Int) < i) = false := decide_eq_false (by omega)
            have HW := Lib.hid hB.bel
            clear hB hE
            go_wp2_with fail
            go_ret
            exact ⟨rfl, HW.out⟩
    · skip
      have FW := fun W hx => Lib.hid (he_few (w := W) (vl := .slice al s.L.length cl) s hx a len cap)
      rw [decide_eq_false hok] at FW
      have NW := fun W hx => Lib.hid (he_start (w := W) (vl := .slice al s.L.length cl) s hx (by omega) n hst.1 (by omega) (by omega))
      go_enter Try.func12, Try.ntmps12
      go_wp2_with (first
        | (go_at_call 26; refine (he_up _).mono ?_; rintro e w2 ⟨rfl, hb2⟩; have hS2 := hS1.below hb2 hS1.lt; have HB2 := Lib.hid (HB1.out.trans (hb2.mono (by simp))); have c0 : w2.cell? ⟨w.heap.size, 0, none⟩ = some (.int .i64 s.kind) := hS2.cell 0; have c1 : w2.cell? ⟨w.heap.size, 1, none⟩ = some (.slice al s.L.length cl) := hS2.cell 1; have c2 : w2.cell? ⟨w.heap.size, 2, none⟩ = some (.bool s.isSealed) := hS2.cell 2; have c3 : w2.cell? ⟨w.heap.size, 3, none⟩ = some (.int .i64 s.to) := hS2.cell 3; clear hb2)
        | (go_at_call 27; refine (FW _ (HX.out.below HB2.out (Nat.le_refl _))).out.mono ?_; rintro e w3 ⟨rfl, hb3⟩; have hS3 := hS2.below hb3 hS2.lt; have HB3 := Lib.hid (HB2.out.trans (hb3.mono HB2.out.size)); clear c0 c1 c2 c3; have c0 : w3.cell? ⟨w.heap.size, 0, none⟩ = some (.int .i64 s.kind) := hS3.cell 0; have c1 : w3.cell? ⟨w.heap.size, 1, none⟩ = some (.slice al s.L.length cl) := hS3.cell 1; have c2 : w3.cell? ⟨w.heap.size, 2, none⟩ = some (.bool s.isSealed) := hS3.cell 2; have c3 : w3.cell? ⟨w.heap.size, 3, none⟩ = some (.int .i64 s.to) := hS3.cell 3; clear hb3)
        | (go_at_call 28; refine (NW _ (HX.out.below HB3.out (Nat.le_refl _))).out.mono ?_; rintro e w4 ⟨b, fp, rfl, hR4, hb4⟩; have HB4 := Lib.hid (HB3.out.trans (hb4.mono HB3.out.size)); have hb4s := hb4.size; have hS4 := hS3.below hb4 hS3.lt; have HS4 := Lib.hid hS4; clear c0 c1 c2 c3; have c0 : w4.cell? ⟨w.heap.size, 0, none⟩ = some (.int .i64 s.kind) := hS4.cell 0; have c1 : w4.cell? ⟨w.heap.size, 1, none⟩ = some (.slice al s.L.length cl) := hS4.cell 1; have c2 : w4.cell? ⟨w.heap.size, 2, none⟩ = some (.bool s.isSealed) := hS4.cell 2; have c3 : w4.cell? ⟨w.heap.size, 3, none⟩ = some (.int .i64 s.to) := hS4.cell 3; clear hS4; clear hb4))
      go_ret
      exact ⟨rfl, HB4.out⟩
  · by_cases hok : s.L.length ≤ 300 ∧ len ≤ 1500
    · skip
      have FW := fun W hx => Lib.hid (he_few (w := W) (vl := .slice al s.L.length cl) s hx a len cap)
      rw [decide_eq_true hok] at FW
      have NW := fun W hx => Lib.hid (he_start_no (w := W) (vl := .slice al s.L.length cl) s hx n hst)
      go_enter Try.func12, Try.ntmps12
      go_wp2_with (first
        | (go_at_call 26; refine (he_up _).mono ?_; rintro e w2 ⟨rfl, hb2⟩; have hS2 := hS1.below hb2 hS1.lt; have HB2 := Lib.hid (HB1.out.trans (hb2.mono (by simp))); have c0 : w2.cell? ⟨w.heap.size, 0, none⟩ = some (.int .i64 s.kind) := hS2.cell 0; have c1 : w2.cell? ⟨w.heap.size, 1, none⟩ = some (.slice al s.L.length cl) := hS2.cell 1; have c2 : w2.cell? ⟨w.heap.size, 2, none⟩ = some (.bool s.isSealed) := hS2.cell 2; have c3 : w2.cell? ⟨w.heap.size, 3, none⟩ = some (.int .i64 s.to) := hS2.cell 3; clear hb2)
        | (go_at_call 27; refine (FW _ (HX.out.below HB2.out (Nat.le_refl _))).out.mono ?_; rintro e w3 ⟨rfl, hb3⟩; have hS3 := hS2.below hb3 hS2.lt; have HB3 := Lib.hid (HB2.out.trans (hb3.mono HB2.out.size)); clear c0 c1 c2 c3; have c0 : w3.cell? ⟨w.heap.size, 0, none⟩ = some (.int .i64 s.kind) := hS3.cell 0; have c1 : w3.cell? ⟨w.heap.size, 1, none⟩ = some (.slice al s.L.length cl) := hS3.cell 1; have c2 : w3.cell? ⟨w.heap.size, 2, none⟩ = some (.bool s.isSealed) := hS3.cell 2; have c3 : w3.cell? ⟨w.heap.size, 3, none⟩ = some (.int .i64 s.to) := hS3.cell 3; clear hb3)
        | (go_at_call 28; refine (NW _ (HX.out.below HB3.out (Nat.le_refl _))).out.mono ?_; rintro e w4 ⟨rfl, hb4⟩; have HB4 := Lib.hid (HB3.out.trans (hb4.mono HB3.out.size)); have hb4s := hb4.size; have hS4 := hS3.below hb4 hS3.lt; have HS4 := Lib.hid hS4; clear c0 c1 c2 c3; have c0 : w4.cell? ⟨w.heap.size, 0, none⟩ = some (.int .i64 s.kind) := hS4.cell 0; have c1 : w4.cell? ⟨w.heap.size, 1, none⟩ = some (.slice al s.L.length cl) := hS4.cell 1; have c2 : w4.cell? ⟨w.heap.size, 2, none⟩ = some (.bool s.isSealed) := hS4.cell 2; have c3 : w4.cell? ⟨w.heap.size, 3, none⟩ = some (.int .i64 s.to) := hS4.cell 3; clear hS4; clear hb4))
      go_ret
      exact ⟨rfl, HB4.out⟩
    · skip
      have FW := fun W hx => Lib.hid (he_few (w := W) (vl := .slice al s.L.length cl) s hx a len cap)
      rw [decide_eq_false hok] at FW
      have NW := fun W hx => Lib.hid (he_start_no (w := W) (vl := .slice al s.L.length cl) s hx n hst)
      go_enter Try.func12, Try.ntmps12
      go_wp2_with (first
        | (go_at_call 26; refine (he_up _).mono ?_; rintro e w2 ⟨rfl, hb2⟩; have hS2 := hS1.below hb2 hS1.lt; have HB2 := Lib.hid (HB1.out.trans (hb2.mono (by simp))); have c0 : w2.cell? ⟨w.heap.size, 0, none⟩ = some (.int .i64 s.kind) := hS2.cell 0; have c1 : w2.cell? ⟨w.heap.size, 1, none⟩ = some (.slice al s.L.length cl) := hS2.cell 1; have c2 : w2.cell? ⟨w.heap.size, 2, none⟩ = some (.bool s.isSealed) := hS2.cell 2; have c3 : w2.cell? ⟨w.heap.size, 3, none⟩ = some (.int .i64 s.to) := hS2.cell 3; clear hb2)
        | (go_at_call 27; refine (FW _ (HX.out.below HB2.out (Nat.le_refl _))).out.mono ?_; rintro e w3 ⟨rfl, hb3⟩; have hS3 := hS2.below hb3 hS2.lt; have HB3 := Lib.hid (HB2.out.trans (hb3.mono HB2.out.size)); clear c0 c1 c2 c3; have c0 : w3.cell? ⟨w.heap.size, 0, none⟩ = some (.int .i64 s.kind) := hS3.cell 0; have c1 : w3.cell? ⟨w.heap.size, 1, none⟩ = some (.slice al s.L.length cl) := hS3.cell 1; have c2 : w3.cell? ⟨w.heap.size, 2, none⟩ = some (.bool s.isSealed) := hS3.cell 2; have c3 : w3.cell? ⟨w.heap.size, 3, none⟩ = some (.int .i64 s.to) := hS3.cell 3; clear hb3)
        | (go_at_call 28; refine (NW _ (HX.out.below HB3.out (Nat.le_refl _))).out.mono ?_; rintro e w4 ⟨rfl, hb4⟩; have HB4 := Lib.hid (HB3.out.trans (hb4.mono HB3.out.size)); have hb4s := hb4.size; have hS4 := hS3.below hb4 hS3.lt; have HS4 := Lib.hid hS4; clear c0 c1 c2 c3; have c0 : w4.cell? ⟨w.heap.size, 0, none⟩ = some (.int .i64 s.kind) := hS4.cell 0; have c1 : w4.cell? ⟨w.heap.size, 1, none⟩ = some (.slice al s.L.length cl) := hS4.cell 1; have c2 : w4.cell? ⟨w.heap.size, 2, none⟩ = some (.bool s.isSealed) := hS4.cell 2; have c3 : w4.cell? ⟨w.heap.size, 3, none⟩ = some (.int .i64 s.to) := hS4.cell 3; clear hS4; clear hb4))
      go_ret
      exact ⟨rfl, HB4.out⟩
end Go.Proofs.Ytjfenjnnpikkdaa
/- Layer 15, HerlihyAlone: whatever the state, the processes and the script, the law returns true, and the arguments read as they did. No condition. -/
namespace Go.Proofs.Ytjfenjnnpikkdaa.herlihyAlone
open Go.ChangeShapes Go.WideShapes Go.ChangeAt Go.RowKit
open Go.ChangeMaps (open_string shut_string)
set_option maxRecDepth 100000

theorem own : ownKnob Try.prog.godebug = none := by kernel_rfl
theorem laidOut : laidOutB Try.prog = true := by kernel_rfl

set_option maxRecDepth 100000 in
theorem lifted (os : Os) (started : os.Started) (H : Type) (enc : TypeId × Value → H) :
    ReturnsInHanded {} Try.checked os 12 .any (Rows.herlihyAloneSpec.pre6 enc Try.prog Try.f12 Rows.herlihyAloneRow.domain false) (Rows.herlihyAloneSpec.post enc Try.prog Try.f12 false true false false) := by
  refine returnsInHanded_of_change (C := Try.checked) own started (by kernel_rfl) Try.func12
    (ChangeSpec.witness6 (enc := enc) (C := Try.checked) false ⟨#[], #[.agg #[.int .i64 0, .slice none 0 0, .bool false, .int .i64 0], .int .i64 0, .slice none 0 0], []⟩ 8 (by kernel_rfl) (by kernel_rfl) (by kernel_rfl) (by kernel_rfl)) ?_
  intro W base args ds gs before hval0 hW hcnd _
  have hval : ∀ (j : Nat) t v, Try.f12.params[j]? = some t → args[j]? = some v → Value.okWide Try.prog W .any base t v := hval0
  have hW' := hW
  obtain ⟨p, q, hA0, hV, rfl, hfz, hnd⟩ := hW
  have hA : DataW.TrodAll enc Try.prog W 0 (fun _ => true) true Try.f12.params.toList args.toList ds p := hA0
  rw [Try.params12] at hA hval
  obtain ⟨v0, vs0, d0, ds0, p0, q0, hargs, rfl, rfl, h0, r0⟩ := trodAll_cons hA
  obtain ⟨v1, vs1, d1, ds1, p1, q1, rfl, rfl, rfl, h1, r1⟩ := trodAll_cons r0
  obtain ⟨v2, vs2, d2, ds2, p2, q2, rfl, rfl, rfl, h2, r2⟩ := trodAll_cons r1
  obtain ⟨rfl, rfl, rfl⟩ := trodAll_nil r2
  obtain rfl : args = #[v0, v1, v2] := by cases args; simp_all
  obtain ⟨rfl, rfl⟩ := trodVars_none hV
  have k0 := h0
  have lt0 : ∀ x ∈ p0, x.block < W.heap.size := by obtain ⟨m, hm⟩ := k0; exact DataW.trod_lt m _ _ _ hm
  have k1 := h1
  have lt1 : ∀ x ∈ p1, x.block < W.heap.size := by obtain ⟨m, hm⟩ := k1; exact DataW.trod_lt m _ _ _ hm
  have k2 := h2
  have lt2 : ∀ x ∈ p2, x.block < W.heap.size := by obtain ⟨m, hm⟩ := k2; exact DataW.trod_lt m _ _ _ hm
  obtain ⟨s0, l0, rfl, w0⟩ := open_state (hval 0 24 v0 rfl rfl) h0
  obtain ⟨a1, rfl, rfl, rfl, w1⟩ := open_int Try.underlying3 (hval 1 3 v1 rfl rfl) h1
  obtain ⟨a2, len2, cap2, rfl⟩ := okWide_slice Try.underlying57 (hval 2 57 v2 rfl rfl)
  obtain ⟨hlc2, hcm2, f2, w2⟩ : len2 ≤ cap2 ∧ cap2 ≤ 9223372036854775807 ∧ ∃ f, IsOps W a2 len2 f 5 := by
    obtain ⟨fuel, hf⟩ := h2
    exact open_flat_structs Try.underlying57 Try.cells_evHe (by decide) (flat_evHe (enc := enc)) a2 len2 cap2 (by simpa [Value.cells] using hf)
  clear hA0 hval0
  refine (he_alone (w := W) s0 w0 a1 a2 len2 cap2 f2 w2 hlc2 hcm2).mono fun e W' ⟨he, bel⟩ => ?_
  subst he
  exact ⟨_, rfl, _, _, _, [], _, [], hW', trodAll_mk1 (shut_bool Try.underlying4 _), (trodAll_cons_mk (Below.trod laidOut (by kernel_rfl) (of_decide_eq_true (by kernel_rfl)) k0 bel lt0) (trodAll_cons_mk (Below.trod laidOut (by kernel_rfl) (of_decide_eq_true (by kernel_rfl)) k1 bel lt1) (trodAll_cons_mk (Below.trod laidOut (by kernel_rfl) (of_decide_eq_true (by kernel_rfl)) k2 bel lt2) trodAll_mk0))), rfl, bel.frame _, fun h => by cases h⟩

theorem over : Rows.herlihyAloneRow.holds Try.pinned (OpenSpec.ofChange Rows.herlihyAloneSpec) :=
  OpenClaim.holds_of_wide 12 Try.f12 rfl rfl rfl rfl rfl rfl rfl ⟨rfl, rfl, rfl, rfl, rfl⟩ rfl rfl rfl rfl rfl (by kernel_rfl) Try.func12 (by kernel_rfl)
    (of_decide_eq_true (by kernel_rfl)) (by unfold Func.isWrapper; first | (rw [if_pos (by decide +kernel)]; kernel_rfl) | (rw [if_neg (by decide +kernel)]; exact ⟨rfl, rfl⟩))
    (fun os started H enc _ => lifted os started H enc)

theorem proved : Rows.HerlihyAloneSaid := over
#print axioms proved
end Go.Proofs.Ytjfenjnnpikkdaa.herlihyAlone
