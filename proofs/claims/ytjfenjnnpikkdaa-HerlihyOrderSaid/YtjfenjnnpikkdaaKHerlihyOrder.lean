/-
  Layer 15, HerlihyOrder: whatever the state, the processes and the script, the law returns true, and the arguments read as they did. No condition.
-/
import Derived.Test.YtjfenjnnpikkdaaRows
import Derived.WalkKit
import Derived.ProofKit
import Derived.OpenShut
import Derived.ShutString
import Derived.ChangeOld
import Derived.Below
import Derived.Test.YtjfenjnnpikkdaaKk
import Derived.Test.YtjfenjnnpikkdaaKkb
set_option linter.unusedVariables false
set_option linter.unusedSimpArgs false
namespace Go.Proofs.Ytjfenjnnpikkdaa
set_option maxRecDepth 100000
open Go.RowKit
open Go.Proofs.YtjfenjnnpikkdaaW.PrintLast

set_option maxRecDepth 100000 in
set_option maxHeartbeats 12800000 in
theorem he_order {w : World} {vl : Value} (s : St) (hx : Rd w vl s.L) (n : Int) (a : Option Addr) (len cap : Nat) (f : Nat → Nat → Int) (hv : IsOps w a len f 5) (hlc : len ≤ cap) (hcm : cap ≤ 9223372036854775807) :
    Calls Try.prog 10 #[stV s vl, .int .i64 n, .slice a len cap] w (Tells w true) := by
  obtain ⟨al, cl, rfl, hcl, hcm2, _⟩ := id hx
  have hb1 : Below w.heap.size w (w.alloc (.cells #[.int .i64 s.kind, .slice al s.L.length cl, .bool s.isSealed, .int .i64 s.to] 24)) := (Below.refl _ _).alloc (Nat.le_refl _) _
  have hS1 := Blk.new w #[.int .i64 s.kind, .slice al s.L.length cl, .bool s.isSealed, .int .i64 s.to] 24
  have HB1 := Lib.hid hb1
  have HX := Lib.hid hx
  have HV := Lib.hid hv
  clear hx hb1 hv
  by_cases hst : mayB s = true ∧ 1 ≤ n ∧ n ≤ 64
  · obtain ⟨n, rfl⟩ := Int.eq_ofNat_of_zero_le (show 0 ≤ n by omega)
    have hlen := may_len hst.1
    have hn1 : 0 < n ∧ n ≤ 64 := by omega
    by_cases hok : s.L.length ≤ 300 ∧ len ≤ 1500
    · skip
      have FW := fun W hx => Lib.hid (he_few (w := W) (vl := .slice al s.L.length cl) s hx a len cap)
      rw [decide_eq_true hok] at FW
      have NW := fun W hx => Lib.hid (he_start (w := W) (vl := .slice al s.L.length cl) s hx (by omega) n hst.1 (by omega) (by omega))
      go_enter Try.func10, Try.ntmps10
      go_wp2_with (first
        | (go_at_call 26; refine (he_up _).mono ?_; rintro e w2 ⟨rfl, hb2⟩; have hS2 := hS1.below hb2 hS1.lt; have HB2 := Lib.hid (HB1.out.trans (hb2.mono (by simp))); have c0 : w2.cell? ⟨w.heap.size, 0, none⟩ = some (.int .i64 s.kind) := hS2.cell 0; have c1 : w2.cell? ⟨w.heap.size, 1, none⟩ = some (.slice al s.L.length cl) := hS2.cell 1; have c2 : w2.cell? ⟨w.heap.size, 2, none⟩ = some (.bool s.isSealed) := hS2.cell 2; have c3 : w2.cell? ⟨w.heap.size, 3, none⟩ = some (.int .i64 s.to) := hS2.cell 3; clear hb2)
        | (go_at_call 27; refine (FW _ (HX.out.below HB2.out (Nat.le_refl _))).out.mono ?_; rintro e w3 ⟨rfl, hb3⟩; have hS3 := hS2.below hb3 hS2.lt; have HB3 := Lib.hid (HB2.out.trans (hb3.mono HB2.out.size)); clear c0 c1 c2 c3; have c0 : w3.cell? ⟨w.heap.size, 0, none⟩ = some (.int .i64 s.kind) := hS3.cell 0; have c1 : w3.cell? ⟨w.heap.size, 1, none⟩ = some (.slice al s.L.length cl) := hS3.cell 1; have c2 : w3.cell? ⟨w.heap.size, 2, none⟩ = some (.bool s.isSealed) := hS3.cell 2; have c3 : w3.cell? ⟨w.heap.size, 3, none⟩ = some (.int .i64 s.to) := hS3.cell 3; clear hb3)
        | (go_at_call 28; refine (NW _ (HX.out.below HB3.out (Nat.le_refl _))).out.mono ?_; rintro e w4 ⟨b, fp, rfl, hR4, hb4⟩; have HB4 := Lib.hid (HB3.out.trans (hb4.mono HB3.out.size)); have hb4s := hb4.size; clear hb4))
      have I := heIf n s hn1
      have hz := he_zero n s (by omega)
      have hV4 := HV.out.mono HB4.out (Nat.le_refl _)
      have hab : 0 < len → ∀ ba oa, a = some ⟨ba, oa, none⟩ → ba < w3.heap.size := fun h0 ba oa e => Nat.lt_of_lt_of_le (HV.out.lt (by omega) ba oa e) HB3.out.size
      have hbw : w3.heap.size ≤ w4.heap.size := hb4s
      have HR := Lib.hid (he_run I hR4 hz hbw a len cap f hV4 hab (by omega) (by omega))
      have HR4 := Lib.hid hR4
      have hfb : ∀ j, fp j → w3.heap.size ≤ j := fun j hj => (I.lt hR4 j hj).1
      have h34 := HB3.out.size
      have HRI := Lib.hid (hz.rinv.run (evAt f) len)
      have hcl := calls_run (L := heLin n s) (evAt f) ⟨heZero n s, [], fun _ => 0⟩ len
      simp only [List.length_nil, Nat.zero_add] at hcl
      clear hR4 hV4 hab
      generalize runS (heLin n s) (evAt f) ⟨heZero n s, [], fun _ => 0⟩ len = R at *
      refine HR.out.mono ?_
      rintro e w5 ⟨v5, fp5, rfl, hE5, hO5, hf5, hn5⟩
      obtain ⟨a5, c5, rfl⟩ := own_shape hO5
      have HL := Lib.hid (I.log hE5.rep (by omega))
      have HE5 := Lib.hid hE5
      have HO5 := Lib.hid hO5
      have HN5 := Lib.hid hn5
      clear hE5 hO5 hf5 hn5 HR
      go_wp2_with (go_at_call 30; refine HL.out.mono ?_; rintro e w6 ⟨v6, rfl, hO6, hf6, fp6, hR6, hfp6, hn6, hK6⟩; have hE6 := HE5.out.post hR6 hfp6 hK6; have hO56 := own_keeps HO5.out hK6 HN5.out; have hl6m : ((heLin n s).log R.E).length ≤ 9223372036854775807 := (by obtain ⟨_, _, _, h1, h2⟩ := own_shape2 hO6; simp only [maxLen] at h2; omega); have hrd6 := RecRd.of hO6; obtain ⟨a6, c6, rfl⟩ := own_shape hO6; have HE6 := Lib.hid hE6; have HO56 := Lib.hid hO56; have HRD6 := Lib.hid hrd6; clear hO6 hf6 hR6 hfp6 hK6 hn6 hE6 hO56 hrd6 HO5 HE5 HL)
      have hB6 : Below w.heap.size w w6 := HB4.out.trans (HE6.out.keeps.below (fun j hj => Nat.le_trans h34 (hfb j hj)) HB4.out.size)
      have HB6 := Lib.hid hB6
      clear hB6
      generalize hl : (heLin n s).log R.E = l at *
      obtain ⟨i0, hi0, hz0, hz1, hz2⟩ := info_parts infoInt
      go_loopw [13, 14] (fun pv iv wr => ∃ i : Nat, i ≤ R.calls.length ∧ iv = .int .i64 i ∧ Below w6.heap.size w6 wr ∧ Own wr 3 1 pv i (ints ((List.range i).map fun j => (atS l (R.cat j).p (R.cat j).seq l.length).1)) ∧ Fresh w6.heap.size pv) (fun _ iv _ => R.calls.length - (intOf iv).toNat)
      case atStart => exact ⟨0, Nat.zero_le _, rfl, Below.refl _ _, World.ownsRow_nil .., fun k hk => by simp [Value.ownBlock] at hk⟩
      case round =>
        obtain ⟨i, hi, rfl, hbl, hop, hfp⟩ := hrel
        have HBL := Lib.hid hbl
        by_cases hlt : i < R.calls.length
        · have d0 : decide ((i : Int) < R.calls.length) = true := decide_eq_true (by omega)
          have i1 : (0 : Int) ≤ (i : Int) := by omega
          have i2 : (i : Int) < (R.calls.length : Int) := by omega
          have i64k : IntKind.i64.wrap ((i : Int) + 1) = (i : Int) + 1 := IntWalk.i64_in _ (by omega)
          obtain ⟨gc, cc, e5, -⟩ := own_open HO56.out (by omega)
          injection e5 with e51 e52 e53
          subst e51 e53
          have hcall := fun j (hj : j < 8) => (hbl.cell (p := ⟨gc, i * 8 + j, none⟩) (own_lt HO56.out rfl)).trans ((World.ownsRow.cellAt HO56.out (i * 8 + j) (by omega)).trans (hecalls_at _ _ hlt j hj))
          have h0 : wr.cell? ⟨gc, i * 8, none⟩ = some (.int .i64 (R.cat i).p) := hcall 0 (by decide)
          have h1 : wr.cell? ⟨gc, i * 8 + 1, none⟩ = some (.int .i64 (R.cat i).seq) := hcall 1 (by decide)
          have h2 : wr.cell? ⟨gc, i * 8 + 2, none⟩ = some (.int .i64 (R.cat i).frm) := hcall 2 (by decide)
          have h3 : wr.cell? ⟨gc, i * 8 + 3, none⟩ = some (.int .i64 (R.cat i).to) := hcall 3 (by decide)
          have h4 : wr.cell? ⟨gc, i * 8 + 4, none⟩ = some (.int .i64 (R.cat i).resp) := hcall 4 (by decide)
          have h5 : wr.cell? ⟨gc, i * 8 + 5, none⟩ = some (.int .i64 (R.cat i).op.code) := hcall 5 (by decide)
          have h6 : wr.cell? ⟨gc, i * 8 + 6, none⟩ = some (.int .i64 (R.cat i).op.a) := hcall 6 (by decide)
          have h7 : wr.cell? ⟨gc, i * 8 + 7, none⟩ = some (.int .i64 (R.cat i).op.b) := hcall 7 (by decide)
          have hrd := HRD6.out.keeps (Keeps.ofBelow (F := fun _ => False) hbl) (fun _ _ h => h)
          have HAT := Lib.hid (he_at hrd hl6m (R.cat i))
          obtain ⟨ap, cp, rfl⟩ := own_shape hop
          have HOP := Lib.hid hop
          have HFP := Lib.hid hfp
          clear hbl hcall hrd hop hfp
          generalize hts : (atS l (R.cat i).p (R.cat i).seq l.length) = tt at *
          have HTS := Lib.hid hts
          clear hts
          go_wp2_with (first
            | (go_at_call 32; refine HAT.out.mono ?_; rintro e w7 ⟨rfl, hb7⟩; have ho7 := own_keeps HOP.out (Keeps.ofBelow (F := fun _ => False) hb7) (fun _ _ h => h); have HB7 := Lib.hid hb7; have HO7 := Lib.hid ho7; clear hb7 ho7 h0 h1 h2 h3 h4 h5 h6 h7)
            | (at_builtin; refine wpList_append_own_at _ rfl _ _ 22 rfl 0 3 i0 (.int .i64 0) 1 8 Try.underlying22 hi0 hz0 hz1 hz2 rfl (by decide) (.slice ap i cp) _ _ rfl (HO7.out.alloc _) ⟨w7.heap.size, 0, none⟩ 1 1 [.int .i64 tt.1] rfl (by simp) (cell_one_new _ _ _) (by intro u hu; simp at hu; subst hu; rfl) (by simp only [maxLen]; omega) (by omega) (Nat.zero_le _) ?_; intro v' w8 hown hgrow hnil hat; have HOWN := Lib.hid hown; have HGROW := Lib.hid hgrow; have HATT := Lib.hid hat; clear hown hgrow hnil hat))
          go_roundw
          case rel =>
            have hgf : Fresh w6.heap.size v' := fun k hk => by
              rcases HATT.out with e | e <;> rw [e] at hk
              · exact HFP.out k hk
              · injection hk with hk; have h1 := HBL.out.size; have h2 := HB7.out.size; simp only [World.size_alloc] at hk; omega
            have hb8 : Below w6.heap.size w6 w8 := (HBL.out.trans (HB7.out.mono HBL.out.size)).trans (((Keeps.refl (fun q => (Value.slice ap i cp).ownBlock = some q) w7).alloc _ |>.grown HGROW.out (fun k e => .inl e)).below (fun k hk => HFP.out k hk) (by have h1 := HBL.out.size; have h2 := HB7.out.size; omega))
            refine ⟨i + 1, by omega, by go_num, hb8, ?_, hgf⟩
            have := HOWN.out
            rw [List.range_succ, List.map_append, ints_append]
            simpa [HTS.out, ints] using this
          case measure => simp [intOf]; omega
        · have hil : i = R.calls.length := by omega
          subst hil
          have d0 : decide ((R.calls.length : Int) < R.calls.length) = false := decide_eq_false (by omega)
          have hord : ∀ j k, j < R.calls.length → k < R.calls.length → 0 ≤ (R.cat j).to → (R.cat j).to < (R.cat k).frm → 0 ≤ (atS l (R.cat k).p (R.cat k).seq l.length).1 → ¬ (atS l (R.cat k).p (R.cat k).seq l.length).1 < (atS l (R.cat j).p (R.cat j).seq l.length).1 := fun j k hj hk h0 h1 h2 => by
            have := HRI.out.order hj hk h0 h1
            rw [hl] at this
            exact this h2
          obtain ⟨pl, hpl⟩ : ∃ pl : Nat → Int, pl = fun j => (atS l (R.cat j).p (R.cat j).seq l.length).1 := ⟨_, rfl⟩
          have hord2 : ∀ j k, j < R.calls.length → k < R.calls.length → 0 ≤ (R.cat j).to → (R.cat j).to < (R.cat k).frm → 0 ≤ pl k → ¬ pl k < pl j := by rw [hpl]; exact hord
          rw [← hpl] at hop
          have HORD := Lib.hid hord2
          have HOP := Lib.hid hop
          have h56 := own_keeps HO56.out (Keeps.ofBelow (F := fun _ => False) hbl) (fun _ _ h => h)
          have H56 := Lib.hid h56
          obtain ⟨ap, cp, rfl⟩ := own_shape HOP.out
          clear hbl hop hfp hord hord2 hpl h56 HO56 HRD6
          go_wp2_with fail
          generalize wr = wz at *
          go_loopw [17] (fun iv wq => ∃ i : Nat, i ≤ R.calls.length ∧ iv = .int .i64 i ∧ Below wz.heap.size wz wq) (fun iv _ => R.calls.length - (intOf iv).toNat)
          case atStart => exact ⟨0, Nat.zero_le _, rfl, Below.refl _ _⟩
          case round =>
            obtain ⟨i, hi, rfl, hq⟩ := hrel
            by_cases hlt : i < R.calls.length
            · have d0 : decide ((i : Int) < R.calls.length) = true := decide_eq_true (by omega)
              have i1 : (0 : Int) ≤ (i : Int) := by omega
              have i2 : (i : Int) < (R.calls.length : Int) := by omega
              have i64k : IntKind.i64.wrap ((i : Int) + 1) = (i : Int) + 1 := IntWalk.i64_in _ (by omega)
              obtain ⟨gc, cc, e5, -⟩ := own_open H56.out (by omega)
              injection e5 with e51 e52 e53
              subst e51 e53
              obtain ⟨gp, cq, e5, -⟩ := own_open HOP.out (by omega)
              injection e5 with e51 e52 e53
              subst e51 e53
              have HQ := Lib.hid hq
              clear hq
              go_wp2_with fail
              go_loopw [18] (fun kv wk => ∃ k : Nat, k ≤ R.calls.length ∧ kv = .int .i64 k ∧ Below wz.heap.size wz wk) (fun kv _ => R.calls.length - (intOf kv).toNat)
              case atStart => exact ⟨0, Nat.zero_le _, rfl, HQ.out⟩
              case round =>
                obtain ⟨k, hk, rfl, hq⟩ := hrel
                have HK := Lib.hid hq
                by_cases hlk : k < R.calls.length
                · have dk : decide ((k : Int) < R.calls.length) = true := decide_eq_true (by omega)
                  have k1 : (0 : Int) ≤ (k : Int) := by omega
                  have k2 : (k : Int) < (R.calls.length : Int) := by omega
                  have i64q : IntKind.i64.wrap ((k : Int) + 1) = (k : Int) + 1 := IntWalk.i64_in _ (by omega)
                  have hc : ∀ j m, j < R.calls.length → m < 8 → wr.cell? ⟨gc, j * 8 + m, none⟩ = (hecallV (R.cat j))[m]? := fun j m hj hm => (hq.cell (p := ⟨gc, j * 8 + m, none⟩) (own_lt H56.out rfl)).trans ((World.ownsRow.cellAt H56.out (j * 8 + m) (by omega)).trans (hecalls_at _ _ hj m hm))
                  have hp : ∀ j, j < R.calls.length → wr.cell? ⟨gp, j, none⟩ = some (.int .i64 (pl j)) := fun j hj => (hq.cell (p := ⟨gp, j, none⟩) (own_lt HOP.out rfl)).trans (by rw [World.ownsRow.cellAt HOP.out j (by omega), ints_get _ _ (by simpa using hj)]; simp [hj])
                  have t3 : wr.cell? ⟨gc, i * 8 + 3, none⟩ = some (.int .i64 (R.cat i).to) := hc i 3 hlt (by decide)
                  have t2 : wr.cell? ⟨gc, k * 8 + 2, none⟩ = some (.int .i64 (R.cat k).frm) := hc k 2 hlk (by decide)
                  have pk := hp k hlk
                  have pi := hp i hlt
                  have HD := Lib.hid (HORD.out i k hlt hlk)
                  clear hc hp hq
                  by_cases c1 : 0 ≤ (R.cat i).to
                  · have dc1 : decide (0 ≤ (R.cat i).to) = true := decide_eq_true c1
                    by_cases c2 : (R.cat i).to < (R.cat k).frm
                    · have dc2 : decide ((R.cat i).to < ((R.cat k).frm : Int)) = true := decide_eq_true c2
                      by_cases c3 : 0 ≤ pl k
                      · have dc3 : decide (0 ≤ pl k) = true := decide_eq_true c3
                        have dc4 : decide (pl k < pl i) = false := decide_eq_false (by have := HD.out c1 c2 c3; omega)
                        go_wp2_with fail
                        refine start_ (n := 37) (S := fun w' => w'.cell? ⟨gc, i * 8 + 3, none⟩ = some (.int .i64 (R.cat i).to) ∧ w'.cell? ⟨gc, k * 8 + 2, none⟩ = some (.int .i64 (R.cat k).frm) ∧ w'.cell? ⟨gp, k, none⟩ = some (.int .i64 (pl k)) ∧ w'.cell? ⟨gp, i, none⟩ = some (.int .i64 (pl i))) (ds := []) #[false, false, false, false, false, false, false, false, false, false, false, false, false, false, false, false, false, false, false, false, false, false, false, false, false, false, false, false, false, false, false, false, false, false, false, false, false] (by kernel_rfl) rfl rfl ⟨t3, t2, pk, pi⟩ (fun hHeld => ?_)
                        refine pure_ (i := 0) (N := some 81) (v := ?_) (a' := ?_) #[true, false, false, false, false, false, false, false, false, false, false, false, false, false, false, false, false, false, false, false, false, false, false, false, false, false, false, false, false, false, false, false, false, false, false, false, false] rfl rfl (by kernel_rfl) (fun _ _ _ h => h) (Or.inl ⟨by rfl, ?_⟩) ?_ ?_
                        rotate_left
                        · intro w'
                          go_simp
                          with_reducible rfl
                        rotate_left
                        · simp only [Act.put, nA, nB, nC, i64_w, i32_w]
                          rfl
                        refine pure_ (i := 1) (N := some 82) (v := ?_) (a' := ?_) #[true, true, false, false, false, false, false, false, false, false, false, false, false, false, false, false, false, false, false, false, false, false, false, false, false, false, false, false, false, false, false, false, false, false, false, false, false] rfl rfl (by kernel_rfl) (fun _ _ _ h => h) (Or.inl ⟨by rfl, ?_⟩) ?_ ?_
                        rotate_left
                        · intro w'
                          go_simp
                          with_reducible rfl
                        rotate_left
                        · simp only [Act.put, nA, nB, nC, i64_w, i32_w]
                          rfl
                        refine pure_ (i := 2) (N := some 83) (v := ?_) (a' := ?_) #[true, true, true, false, false, false, false, false, false, false, false, false, false, false, false, false, false, false, false, false, false, false, false, false, false, false, false, false, false, false, false, false, false, false, false, false, false] rfl rfl (by kernel_rfl) (fun _ _ _ h => h) (Or.inl ⟨by rfl, ?_⟩) ?_ ?_
                        rotate_left
                        · intro w'
                          go_simp
                          with_reducible rfl
                        rotate_left
                        · simp only [Act.put, nA, nB, nC, i64_w, i32_w]
                          rfl
                        refine pure_ (i := 3) (N := some 84) (v := ?_) (a' := ?_) #[true, true, true, true, false, false, false, false, false, false, false, false, false, false, false, false, false, false, false, false, false, false, false, false, false, false, false, false, false, false, false, false, false, false, false, false, false] rfl rfl (by kernel_rfl) (fun _ _ _ h => h) (Or.inl ⟨by rfl, ?_⟩) ?_ ?_
                        rotate_left
                        · intro w'
                          go_simp
                          with_reducible rfl
                        rotate_left
                        · simp only [Act.put, nA, nB, nC, i64_w, i32_w]
                          rfl
                        refine take_ (i := 4) (N := some 85) (v := ?_) (a' := ?_) #[true, true, true, true, true, false, false, false, false, false, false, false, false, false, false, false, false, false, false, false, false, false, false, false, false, false, false, false, false, false, false, false, false, false, false, false, false] rfl rfl (by kernel_rfl) (fun _ _ _ h => h) (Or.inl ⟨by rfl, ?_⟩) hHeld ?_ ?_
                        rotate_left
                        · rintro w' ⟨s0, s1, s2, s3⟩
                          go_simp
                          with_reducible rfl
                        rotate_left
                        · simp only [Act.put, nA, nB, nC, i64_w, i32_w]
                          rfl
                        refine pure_ (i := 5) (N := some 86) (v := ?_) (a' := ?_) #[true, true, true, true, true, true, false, false, false, false, false, false, false, false, false, false, false, false, false, false, false, false, false, false, false, false, false, false, false, false, false, false, false, false, false, false, false] rfl rfl (by kernel_rfl) (fun _ _ _ h => h) (Or.inl ⟨by rfl, ?_⟩) ?_ ?_
                        rotate_left
                        · intro w'
                          go_simp
                          with_reducible rfl
                        rotate_left
                        · simp only [Act.put, nA, nB, nC, i64_w, i32_w]
                          rfl
                        refine pure_ (i := 6) (N := some 87) (v := ?_) (a' := ?_) #[true, true, true, true, true, true, true, false, false, false, false, false, false, false, false, false, false, false, false, false, false, false, false, false, false, false, false, false, false, false, false, false, false, false, false, false, false] rfl rfl (by kernel_rfl) (fun _ _ _ h => h) (Or.inl ⟨by rfl, ?_⟩) ?_ ?_
                        rotate_left
                        · intro w'
                          go_simp
                          with_reducible rfl
                        rotate_left
                        · simp only [Act.put, nA, nB, nC, i64_w, i32_w]
                          rfl
                        refine pure_ (i := 7) (N := some 88) (v := ?_) (a' := ?_) #[true, true, true, true, true, true, true, true, false, false, false, false, false, false, false, false, false, false, false, false, false, false, false, false, false, false, false, false, false, false, false, false, false, false, false, false, false] rfl rfl (by kernel_rfl) (fun _ _ _ h => h) (Or.inl ⟨by rfl, ?_⟩) ?_ ?_
                        rotate_left
                        · intro w'
                          go_simp
                          with_reducible rfl
                        rotate_left
                        · simp only [Act.put, nA, nB, nC, i64_w, i32_w]
                          rfl
                        refine pure_ (i := 8) (N := some 89) (v := ?_) (a' := ?_) #[true, true, true, true, true, true, true, true, true, false, false, false, false, false, false, false, false, false, false, false, false, false, false, false, false, false, false, false, false, false, false, false, false, false, false, false, false] rfl rfl (by kernel_rfl) (fun _ _ _ h => h) (Or.inl ⟨by rfl, ?_⟩) ?_ ?_
                        rotate_left
                        · intro w'
                          go_simp
                          with_reducible rfl
                        rotate_left
                        · simp only [Act.put, nA, nB, nC, i64_w, i32_w]
                          rfl
                        refine pure_ (i := 9) (N := some 90) (v := ?_) (a' := ?_) #[true, true, true, true, true, true, true, true, true, true, false, false, false, false, false, false, false, false, false, false, false, false, false, false, false, false, false, false, false, false, false, false, false, false, false, false, false] rfl rfl (by kernel_rfl) (fun _ _ _ h => h) (Or.inl ⟨by rfl, ?_⟩) ?_ ?_
                        rotate_left
                        · intro w'
                          go_simp
                          with_reducible rfl
                        rotate_left
                        · simp only [Act.put, nA, nB, nC, i64_w, i32_w]
                          rfl
                        refine pure_ (i := 10) (N := some 91) (v := ?_) (a' := ?_) #[true, true, true, true, true, true, true, true, true, true, true, false, false, false, false, false, false, false, false, false, false, false, false, false, false, false, false, false, false, false, false, false, false, false, false, false, false] rfl rfl (by kernel_rfl) (fun _ _ _ h => h) (Or.inl ⟨by rfl, ?_⟩) ?_ ?_
                        rotate_left
                        · intro w'
                          go_simp
                          with_reducible rfl
                        rotate_left
                        · simp only [Act.put, nA, nB, nC, i64_w, i32_w]
                          rfl
                        refine pure_ (i := 12) (N := some 93) (v := ?_) (a' := ?_) #[true, true, true, true, true, true, true, true, true, true, true, false, true, false, false, false, false, false, false, false, false, false, false, false, false, false, false, false, false, false, false, false, false, false, false, false, false] rfl rfl (by kernel_rfl) (fun _ _ _ h => h) (Or.inl ⟨by rfl, ?_⟩) ?_ ?_
                        rotate_left
                        · intro w'
                          go_simp
                          with_reducible rfl
                        rotate_left
                        · simp only [Act.put, nA, nB, nC, i64_w, i32_w]
                          rfl
                        refine pure_ (i := 13) (N := some 94) (v := ?_) (a' := ?_) #[true, true, true, true, true, true, true, true, true, true, true, false, true, true, false, false, false, false, false, false, false, false, false, false, false, false, false, false, false, false, false, false, false, false, false, false, false] rfl rfl (by kernel_rfl) (fun _ _ _ h => h) (Or.inl ⟨by rfl, ?_⟩) ?_ ?_
                        rotate_left
                        · intro w'
                          go_simp
                          with_reducible rfl
                        rotate_left
                        · simp only [Act.put, nA, nB, nC, i64_w, i32_w]
                          rfl
                        refine pure_ (i := 14) (N := some 95) (v := ?_) (a' := ?_) #[true, true, true, true, true, true, true, true, true, true, true, false, true, true, true, false, false, false, false, false, false, false, false, false, false, false, false, false, false, false, false, false, false, false, false, false, false] rfl rfl (by kernel_rfl) (fun _ _ _ h => h) (Or.inl ⟨by rfl, ?_⟩) ?_ ?_
                        rotate_left
                        · intro w'
                          go_simp
                          with_reducible rfl
                        rotate_left
                        · simp only [Act.put, nA, nB, nC, i64_w, i32_w]
                          rfl
                        refine pure_ (i := 15) (N := some 96) (v := ?_) (a' := ?_) #[true, true, true, true, true, true, true, true, true, true, true, false, true, true, true, true, false, false, false, false, false, false, false, false, false, false, false, false, false, false, false, false, false, false, false, false, false] rfl rfl (by kernel_rfl) (fun _ _ _ h => h) (Or.inl ⟨by rfl, ?_⟩) ?_ ?_
                        rotate_left
                        · intro w'
                          go_simp
                          with_reducible rfl
                        rotate_left
                        · simp only [Act.put, nA, nB, nC, i64_w, i32_w]
                          rfl
                        refine take_ (i := 11) (N := some 92) (v := ?_) (a' := ?_) #[true, true, true, true, true, true, true, true, true, true, true, true, true, true, true, true, false, false, false, false, false, false, false, false, false, false, false, false, false, false, false, false, false, false, false, false, false] rfl rfl (by kernel_rfl) (fun _ _ _ h => h) (Or.inl ⟨by rfl, ?_⟩) hHeld ?_ ?_
                        rotate_left
                        · rintro w' ⟨s0, s1, s2, s3⟩
                          go_simp
                          with_reducible rfl
                        rotate_left
                        · simp only [Act.put, nA, nB, nC, i64_w, i32_w]
                          rfl
                        refine take_ (i := 16) (N := some 97) (v := ?_) (a' := ?_) #[true, true, true, true, true, true, true, true, true, true, true, true, true, true, true, true, true, false, false, false, false, false, false, false, false, false, false, false, false, false, false, false, false, false, false, false, false] rfl rfl (by kernel_rfl) (fun _ _ _ h => h) (Or.inl ⟨by rfl, ?_⟩) hHeld ?_ ?_
                        rotate_left
                        · rintro w' ⟨s0, s1, s2, s3⟩
                          go_simp
                          with_reducible rfl
                        rotate_left
                        · simp only [Act.put, nA, nB, nC, i64_w, i32_w]
                          rfl
                        refine pure_ (i := 17) (N := some 98) (v := ?_) (a' := ?_) #[true, true, true, true, true, true, true, true, true, true, true, true, true, true, true, true, true, true, false, false, false, false, false, false, false, false, false, false, false, false, false, false, false, false, false, false, false] rfl rfl (by kernel_rfl) (fun _ _ _ h => h) (Or.inl ⟨by rfl, ?_⟩) ?_ ?_
                        rotate_left
                        · intro w'
                          go_simp
                          with_reducible rfl
                        rotate_left
                        · simp only [Act.put, nA, nB, nC, i64_w, i32_w]
                          rfl
                        refine pure_ (i := 18) (N := some 99) (v := ?_) (a' := ?_) #[true, true, true, true, true, true, true, true, true, true, true, true, true, true, true, true, true, true, true, false, false, false, false, false, false, false, false, false, false, false, false, false, false, false, false, false, false] rfl rfl (by kernel_rfl) (fun _ _ _ h => h) (Or.inl ⟨by rfl, ?_⟩) ?_ ?_
                        rotate_left
                        · intro w'
                          go_simp
                          with_reducible rfl
                        rotate_left
                        · simp only [Act.put, nA, nB, nC, i64_w, i32_w]
                          rfl
                        refine pure_ (i := 19) (N := some 100) (v := ?_) (a' := ?_) #[true, true, true, true, true, true, true, true, true, true, true, true, true, true, true, true, true, true, true, true, false, false, false, false, false, false, false, false, false, false, false, false, false, false, false, false, false] rfl rfl (by kernel_rfl) (fun _ _ _ h => h) (Or.inl ⟨by rfl, ?_⟩) ?_ ?_
                        rotate_left
                        · intro w'
                          go_simp
                          with_reducible rfl
                        rotate_left
                        · simp only [Act.put, nA, nB, nC, i64_w, i32_w]
                          rfl
                        refine pure_ (i := 20) (N := some 101) (v := ?_) (a' := ?_) #[true, true, true, true, true, true, true, true, true, true, true, true, true, true, true, true, true, true, true, true, true, false, false, false, false, false, false, false, false, false, false, false, false, false, false, false, false] rfl rfl (by kernel_rfl) (fun _ _ _ h => h) (Or.inl ⟨by rfl, ?_⟩) ?_ ?_
                        rotate_left
                        · intro w'
                          go_simp
                          with_reducible rfl
                        rotate_left
                        · simp only [Act.put, nA, nB, nC, i64_w, i32_w]
                          rfl
                        refine pure_ (i := 21) (N := some 102) (v := ?_) (a' := ?_) #[true, true, true, true, true, true, true, true, true, true, true, true, true, true, true, true, true, true, true, true, true, true, false, false, false, false, false, false, false, false, false, false, false, false, false, false, false] rfl rfl (by kernel_rfl) (fun _ _ _ h => h) (Or.inl ⟨by rfl, ?_⟩) ?_ ?_
                        rotate_left
                        · intro w'
                          go_simp
                          with_reducible rfl
                        rotate_left
                        · simp only [Act.put, nA, nB, nC, i64_w, i32_w]
                          rfl
                        refine pure_ (i := 22) (N := some 103) (v := ?_) (a' := ?_) #[true, true, true, true, true, true, true, true, true, true, true, true, true, true, true, true, true, true, true, true, true, true, true, false, false, false, false, false, false, false, false, false, false, false, false, false, false] rfl rfl (by kernel_rfl) (fun _ _ _ h => h) (Or.inl ⟨by rfl, ?_⟩) ?_ ?_
                        rotate_left
                        · intro w'
                          go_simp
                          with_reducible rfl
                        rotate_left
                        · simp only [Act.put, nA, nB, nC, i64_w, i32_w]
                          rfl
                        refine take_ (i := 23) (N := some 104) (v := ?_) (a' := ?_) #[true, true, true, true, true, true, true, true, true, true, true, true, true, true, true, true, true, true, true, true, true, true, true, true, false, false, false, false, false, false, false, false, false, false, false, false, false] rfl rfl (by kernel_rfl) (fun _ _ _ h => h) (Or.inl ⟨by rfl, ?_⟩) hHeld ?_ ?_
                        rotate_left
                        · rintro w' ⟨s0, s1, s2, s3⟩
                          go_simp
                          with_reducible rfl
                        rotate_left
                        · simp only [Act.put, nA, nB, nC, i64_w, i32_w]
                          rfl
                        refine pure_ (i := 24) (N := some 105) (v := ?_) (a' := ?_) #[true, true, true, true, true, true, true, true, true, true, true, true, true, true, true, true, true, true, true, true, true, true, true, true, true, false, false, false, false, false, false, false, false, false, false, false, false] rfl rfl (by kernel_rfl) (fun _ _ _ h => h) (Or.inl ⟨by rfl, ?_⟩) ?_ ?_
                        rotate_left
                        · intro w'
                          go_simp
                          with_reducible rfl
                        rotate_left
                        · simp only [Act.put, nA, nB, nC, i64_w, i32_w]
                          rfl
                        refine pure_ (i := 25) (N := some 106) (v := ?_) (a' := ?_) #[true, true, true, true, true, true, true, true, true, true, true, true, true, true, true, true, true, true, true, true, true, true, true, true, true, true, false, false, false, false, false, false, false, false, false, false, false] rfl rfl (by kernel_rfl) (fun _ _ _ h => h) (Or.inl ⟨by rfl, ?_⟩) ?_ ?_
                        rotate_left
                        · intro w'
                          go_simp
                          with_reducible rfl
                        rotate_left
                        · simp only [Act.put, nA, nB, nC, i64_w, i32_w]
                          rfl
                        refine pure_ (i := 26) (N := some 107) (v := ?_) (a' := ?_) #[true, true, true, true, true, true, true, true, true, true, true, true, true, true, true, true, true, true, true, true, true, true, true, true, true, true, true, false, false, false, false, false, false, false, false, false, false] rfl rfl (by kernel_rfl) (fun _ _ _ h => h) (Or.inl ⟨by rfl, ?_⟩) ?_ ?_
                        rotate_left
                        · intro w'
                          go_simp
                          with_reducible rfl
                        rotate_left
                        · simp only [Act.put, nA, nB, nC, i64_w, i32_w]
                          rfl
                        refine pure_ (i := 27) (N := some 108) (v := ?_) (a' := ?_) #[true, true, true, true, true, true, true, true, true, true, true, true, true, true, true, true, true, true, true, true, true, true, true, true, true, true, true, true, false, false, false, false, false, false, false, false, false] rfl rfl (by kernel_rfl) (fun _ _ _ h => h) (Or.inl ⟨by rfl, ?_⟩) ?_ ?_
                        rotate_left
                        · intro w'
                          go_simp
                          with_reducible rfl
                        rotate_left
                        · simp only [Act.put, nA, nB, nC, i64_w, i32_w]
                          rfl
                        refine pure_ (i := 28) (N := some 109) (v := ?_) (a' := ?_) #[true, true, true, true, true, true, true, true, true, true, true, true, true, true, true, true, true, true, true, true, true, true, true, true, true, true, true, true, true, false, false, false, false, false, false, false, false] rfl rfl (by kernel_rfl) (fun _ _ _ h => h) (Or.inl ⟨by rfl, ?_⟩) ?_ ?_
                        rotate_left
                        · intro w'
                          go_simp
                          with_reducible rfl
                        rotate_left
                        · simp only [Act.put, nA, nB, nC, i64_w, i32_w]
                          rfl
                        refine pure_ (i := 29) (N := some 110) (v := ?_) (a' := ?_) #[true, true, true, true, true, true, true, true, true, true, true, true, true, true, true, true, true, true, true, true, true, true, true, true, true, true, true, true, true, true, false, false, false, false, false, false, false] rfl rfl (by kernel_rfl) (fun _ _ _ h => h) (Or.inl ⟨by rfl, ?_⟩) ?_ ?_
                        rotate_left
                        · intro w'
                          go_simp
                          with_reducible rfl
                        rotate_left
                        · simp only [Act.put, nA, nB, nC, i64_w, i32_w]
                          rfl
                        refine pure_ (i := 31) (N := some 112) (v := ?_) (a' := ?_) #[true, true, true, true, true, true, true, true, true, true, true, true, true, true, true, true, true, true, true, true, true, true, true, true, true, true, true, true, true, true, false, true, false, false, false, false, false] rfl rfl (by kernel_rfl) (fun _ _ _ h => h) (Or.inl ⟨by rfl, ?_⟩) ?_ ?_
                        rotate_left
                        · intro w'
                          go_simp
                          with_reducible rfl
                        rotate_left
                        · simp only [Act.put, nA, nB, nC, i64_w, i32_w]
                          rfl
                        refine pure_ (i := 32) (N := some 113) (v := ?_) (a' := ?_) #[true, true, true, true, true, true, true, true, true, true, true, true, true, true, true, true, true, true, true, true, true, true, true, true, true, true, true, true, true, true, false, true, true, false, false, false, false] rfl rfl (by kernel_rfl) (fun _ _ _ h => h) (Or.inl ⟨by rfl, ?_⟩) ?_ ?_
                        rotate_left
                        · intro w'
                          go_simp
                          with_reducible rfl
                        rotate_left
                        · simp only [Act.put, nA, nB, nC, i64_w, i32_w]
                          rfl
                        refine pure_ (i := 33) (N := some 114) (v := ?_) (a' := ?_) #[true, true, true, true, true, true, true, true, true, true, true, true, true, true, true, true, true, true, true, true, true, true, true, true, true, true, true, true, true, true, false, true, true, true, false, false, false] rfl rfl (by kernel_rfl) (fun _ _ _ h => h) (Or.inl ⟨by rfl, ?_⟩) ?_ ?_
                        rotate_left
                        · intro w'
                          go_simp
                          with_reducible rfl
                        rotate_left
                        · simp only [Act.put, nA, nB, nC, i64_w, i32_w]
                          rfl
                        refine take_ (i := 30) (N := some 111) (v := ?_) (a' := ?_) #[true, true, true, true, true, true, true, true, true, true, true, true, true, true, true, true, true, true, true, true, true, true, true, true, true, true, true, true, true, true, true, true, true, true, false, false, false] rfl rfl (by kernel_rfl) (fun _ _ _ h => h) (Or.inl ⟨by rfl, ?_⟩) hHeld ?_ ?_
                        rotate_left
                        · rintro w' ⟨s0, s1, s2, s3⟩
                          go_simp
                          with_reducible rfl
                        rotate_left
                        · simp only [Act.put, nA, nB, nC, i64_w, i32_w]
                          rfl
                        refine take_ (i := 34) (N := some 115) (v := ?_) (a' := ?_) #[true, true, true, true, true, true, true, true, true, true, true, true, true, true, true, true, true, true, true, true, true, true, true, true, true, true, true, true, true, true, true, true, true, true, true, false, false] rfl rfl (by kernel_rfl) (fun _ _ _ h => h) (Or.inl ⟨by rfl, ?_⟩) hHeld ?_ ?_
                        rotate_left
                        · rintro w' ⟨s0, s1, s2, s3⟩
                          go_simp
                          with_reducible rfl
                        rotate_left
                        · simp only [Act.put, nA, nB, nC, i64_w, i32_w]
                          rfl
                        refine pure_ (i := 35) (N := some 116) (v := ?_) (a' := ?_) #[true, true, true, true, true, true, true, true, true, true, true, true, true, true, true, true, true, true, true, true, true, true, true, true, true, true, true, true, true, true, true, true, true, true, true, true, false] rfl rfl (by kernel_rfl) (fun _ _ _ h => h) (Or.inl ⟨by rfl, ?_⟩) ?_ ?_
                        rotate_left
                        · intro w'
                          go_simp
                          with_reducible rfl
                        rotate_left
                        · simp only [Act.put, nA, nB, nC, i64_w, i32_w]
                          rfl
                        refine pure_ (i := 36) (N := some 117) (v := ?_) (a' := ?_) #[true, true, true, true, true, true, true, true, true, true, true, true, true, true, true, true, true, true, true, true, true, true, true, true, true, true, true, true, true, true, true, true, true, true, true, true, true] rfl rfl (by kernel_rfl) (fun _ _ _ h => h) (Or.inl ⟨by rfl, ?_⟩) ?_ ?_
                        rotate_left
                        · intro w'
                          go_simp
                          with_reducible rfl
                        rotate_left
                        · simp only [Act.put, nA, nB, nC, i64_w, i32_w]
                          rfl
                        try clear hHeld
                        refine done_ (by kernel_rfl) ?_
                        clear t3 t2 pk pi
                        go_wp2_with fail
                        go_roundw
                        case rel => exact ⟨k + 1, by omega, by go_num, HK.out.drew⟩
                        case measure => simp [intOf]; omega
                      · have dc3 : decide (0 ≤ pl k) = false := decide_eq_false c3
                        go_wp2_with fail
                        refine start_ (n := 37) (S := fun w' => w'.cell? ⟨gc, i * 8 + 3, none⟩ = some (.int .i64 (R.cat i).to) ∧ w'.cell? ⟨gc, k * 8 + 2, none⟩ = some (.int .i64 (R.cat k).frm) ∧ w'.cell? ⟨gp, k, none⟩ = some (.int .i64 (pl k)) ∧ w'.cell? ⟨gp, i, none⟩ = some (.int .i64 (pl i))) (ds := []) #[false, false, false, false, false, false, false, false, false, false, false, false, false, false, false, false, false, false, false, false, false, false, false, false, false, false, false, false, false, false, false, false, false, false, false, false, false] (by kernel_rfl) rfl rfl ⟨t3, t2, pk, pi⟩ (fun hHeld => ?_)
                        refine pure_ (i := 0) (N := some 81) (v := ?_) (a' := ?_) #[true, false, false, false, false, false, false, false, false, false, false, false, false, false, false, false, false, false, false, false, false, false, false, false, false, false, false, false, false, false, false, false, false, false, false, false, false] rfl rfl (by kernel_rfl) (fun _ _ _ h => h) (Or.inl ⟨by rfl, ?_⟩) ?_ ?_
                        rotate_left
                        · intro w'
                          go_simp
                          with_reducible rfl
                        rotate_left
                        · simp only [Act.put, nA, nB, nC, i64_w, i32_w]
                          rfl
                        refine pure_ (i := 1) (N := some 82) (v := ?_) (a' := ?_) #[true, true, false, false, false, false, false, false, false, false, false, false, false, false, false, false, false, false, false, false, false, false, false, false, false, false, false, false, false, false, false, false, false, false, false, false, false] rfl rfl (by kernel_rfl) (fun _ _ _ h => h) (Or.inl ⟨by rfl, ?_⟩) ?_ ?_
                        rotate_left
                        · intro w'
                          go_simp
                          with_reducible rfl
                        rotate_left
                        · simp only [Act.put, nA, nB, nC, i64_w, i32_w]
                          rfl
                        refine pure_ (i := 2) (N := some 83) (v := ?_) (a' := ?_) #[true, true, true, false, false, false, false, false, false, false, false, false, false, false, false, false, false, false, false, false, false, false, false, false, false, false, false, false, false, false, false, false, false, false, false, false, false] rfl rfl (by kernel_rfl) (fun _ _ _ h => h) (Or.inl ⟨by rfl, ?_⟩) ?_ ?_
                        rotate_left
                        · intro w'
                          go_simp
                          with_reducible rfl
                        rotate_left
                        · simp only [Act.put, nA, nB, nC, i64_w, i32_w]
                          rfl
                        refine pure_ (i := 3) (N := some 84) (v := ?_) (a' := ?_) #[true, true, true, true, false, false, false, false, false, false, false, false, false, false, false, false, false, false, false, false, false, false, false, false, false, false, false, false, false, false, false, false, false, false, false, false, false] rfl rfl (by kernel_rfl) (fun _ _ _ h => h) (Or.inl ⟨by rfl, ?_⟩) ?_ ?_
                        rotate_left
                        · intro w'
                          go_simp
                          with_reducible rfl
                        rotate_left
                        · simp only [Act.put, nA, nB, nC, i64_w, i32_w]
                          rfl
                        refine take_ (i := 4) (N := some 85) (v := ?_) (a' := ?_) #[true, true, true, true, true, false, false, false, false, false, false, false, false, false, false, false, false, false, false, false, false, false, false, false, false, false, false, false, false, false, false, false, false, false, false, false, false] rfl rfl (by kernel_rfl) (fun _ _ _ h => h) (Or.inl ⟨by rfl, ?_⟩) hHeld ?_ ?_
                        rotate_left
                        · rintro w' ⟨s0, s1, s2, s3⟩
                          go_simp
                          with_reducible rfl
                        rotate_left
                        · simp only [Act.put, nA, nB, nC, i64_w, i32_w]
                          rfl
                        refine pure_ (i := 5) (N := some 86) (v := ?_) (a' := ?_) #[true, true, true, true, true, true, false, false, false, false, false, false, false, false, false, false, false, false, false, false, false, false, false, false, false, false, false, false, false, false, false, false, false, false, false, false, false] rfl rfl (by kernel_rfl) (fun _ _ _ h => h) (Or.inl ⟨by rfl, ?_⟩) ?_ ?_
                        rotate_left
                        · intro w'
                          go_simp
                          with_reducible rfl
                        rotate_left
                        · simp only [Act.put, nA, nB, nC, i64_w, i32_w]
                          rfl
                        refine pure_ (i := 6) (N := some 87) (v := ?_) (a' := ?_) #[true, true, true, true, true, true, true, false, false, false, false, false, false, false, false, false, false, false, false, false, false, false, false, false, false, false, false, false, false, false, false, false, false, false, false, false, false] rfl rfl (by kernel_rfl) (fun _ _ _ h => h) (Or.inl ⟨by rfl, ?_⟩) ?_ ?_
                        rotate_left
                        · intro w'
                          go_simp
                          with_reducible rfl
                        rotate_left
                        · simp only [Act.put, nA, nB, nC, i64_w, i32_w]
                          rfl
                        refine pure_ (i := 7) (N := some 88) (v := ?_) (a' := ?_) #[true, true, true, true, true, true, true, true, false, false, false, false, false, false, false, false, false, false, false, false, false, false, false, false, false, false, false, false, false, false, false, false, false, false, false, false, false] rfl rfl (by kernel_rfl) (fun _ _ _ h => h) (Or.inl ⟨by rfl, ?_⟩) ?_ ?_
                        rotate_left
                        · intro w'
                          go_simp
                          with_reducible rfl
                        rotate_left
                        · simp only [Act.put, nA, nB, nC, i64_w, i32_w]
                          rfl
                        refine pure_ (i := 8) (N := some 89) (v := ?_) (a' := ?_) #[true, true, true, true, true, true, true, true, true, false, false, false, false, false, false, false, false, false, false, false, false, false, false, false, false, false, false, false, false, false, false, false, false, false, false, false, false] rfl rfl (by kernel_rfl) (fun _ _ _ h => h) (Or.inl ⟨by rfl, ?_⟩) ?_ ?_
                        rotate_left
                        · intro w'
                          go_simp
                          with_reducible rfl
                        rotate_left
                        · simp only [Act.put, nA, nB, nC, i64_w, i32_w]
                          rfl
                        refine pure_ (i := 9) (N := some 90) (v := ?_) (a' := ?_) #[true, true, true, true, true, true, true, true, true, true, false, false, false, false, false, false, false, false, false, false, false, false, false, false, false, false, false, false, false, false, false, false, false, false, false, false, false] rfl rfl (by kernel_rfl) (fun _ _ _ h => h) (Or.inl ⟨by rfl, ?_⟩) ?_ ?_
                        rotate_left
                        · intro w'
                          go_simp
                          with_reducible rfl
                        rotate_left
                        · simp only [Act.put, nA, nB, nC, i64_w, i32_w]
                          rfl
                        refine pure_ (i := 10) (N := some 91) (v := ?_) (a' := ?_) #[true, true, true, true, true, true, true, true, true, true, true, false, false, false, false, false, false, false, false, false, false, false, false, false, false, false, false, false, false, false, false, false, false, false, false, false, false] rfl rfl (by kernel_rfl) (fun _ _ _ h => h) (Or.inl ⟨by rfl, ?_⟩) ?_ ?_
                        rotate_left
                        · intro w'
                          go_simp
                          with_reducible rfl
                        rotate_left
                        · simp only [Act.put, nA, nB, nC, i64_w, i32_w]
                          rfl
                        refine pure_ (i := 12) (N := some 93) (v := ?_) (a' := ?_) #[true, true, true, true, true, true, true, true, true, true, true, false, true, false, false, false, false, false, false, false, false, false, false, false, false, false, false, false, false, false, false, false, false, false, false, false, false] rfl rfl (by kernel_rfl) (fun _ _ _ h => h) (Or.inl ⟨by rfl, ?_⟩) ?_ ?_
                        rotate_left
                        · intro w'
                          go_simp
                          with_reducible rfl
                        rotate_left
                        · simp only [Act.put, nA, nB, nC, i64_w, i32_w]
                          rfl
                        refine pure_ (i := 13) (N := some 94) (v := ?_) (a' := ?_) #[true, true, true, true, true, true, true, true, true, true, true, false, true, true, false, false, false, false, false, false, false, false, false, false, false, false, false, false, false, false, false, false, false, false, false, false, false] rfl rfl (by kernel_rfl) (fun _ _ _ h => h) (Or.inl ⟨by rfl, ?_⟩) ?_ ?_
                        rotate_left
                        · intro w'
                          go_simp
                          with_reducible rfl
                        rotate_left
                        · simp only [Act.put, nA, nB, nC, i64_w, i32_w]
                          rfl
                        refine pure_ (i := 14) (N := some 95) (v := ?_) (a' := ?_) #[true, true, true, true, true, true, true, true, true, true, true, false, true, true, true, false, false, false, false, false, false, false, false, false, false, false, false, false, false, false, false, false, false, false, false, false, false] rfl rfl (by kernel_rfl) (fun _ _ _ h => h) (Or.inl ⟨by rfl, ?_⟩) ?_ ?_
                        rotate_left
                        · intro w'
                          go_simp
                          with_reducible rfl
                        rotate_left
                        · simp only [Act.put, nA, nB, nC, i64_w, i32_w]
                          rfl
                        refine pure_ (i := 15) (N := some 96) (v := ?_) (a' := ?_) #[true, true, true, true, true, true, true, true, true, true, true, false, true, true, true, true, false, false, false, false, false, false, false, false, false, false, false, false, false, false, false, false, false, false, false, false, false] rfl rfl (by kernel_rfl) (fun _ _ _ h => h) (Or.inl ⟨by rfl, ?_⟩) ?_ ?_
                        rotate_left
                        · intro w'
                          go_simp
                          with_reducible rfl
                        rotate_left
                        · simp only [Act.put, nA, nB, nC, i64_w, i32_w]
                          rfl
                        refine take_ (i := 11) (N := some 92) (v := ?_) (a' := ?_) #[true, true, true, true, true, true, true, true, true, true, true, true, true, true, true, true, false, false, false, false, false, false, false, false, false, false, false, false, false, false, false, false, false, false, false, false, false] rfl rfl (by kernel_rfl) (fun _ _ _ h => h) (Or.inl ⟨by rfl, ?_⟩) hHeld ?_ ?_
                        rotate_left
                        · rintro w' ⟨s0, s1, s2, s3⟩
                          go_simp
                          with_reducible rfl
                        rotate_left
                        · simp only [Act.put, nA, nB, nC, i64_w, i32_w]
                          rfl
                        refine take_ (i := 16) (N := some 97) (v := ?_) (a' := ?_) #[true, true, true, true, true, true, true, true, true, true, true, true, true, true, true, true, true, false, false, false, false, false, false, false, false, false, false, false, false, false, false, false, false, false, false, false, false] rfl rfl (by kernel_rfl) (fun _ _ _ h => h) (Or.inl ⟨by rfl, ?_⟩) hHeld ?_ ?_
                        rotate_left
                        · rintro w' ⟨s0, s1, s2, s3⟩
                          go_simp
                          with_reducible rfl
                        rotate_left
                        · simp only [Act.put, nA, nB, nC, i64_w, i32_w]
                          rfl
                        refine pure_ (i := 17) (N := some 98) (v := ?_) (a' := ?_) #[true, true, true, true, true, true, true, true, true, true, true, true, true, true, true, true, true, true, false, false, false, false, false, false, false, false, false, false, false, false, false, false, false, false, false, false, false] rfl rfl (by kernel_rfl) (fun _ _ _ h => h) (Or.inl ⟨by rfl, ?_⟩) ?_ ?_
                        rotate_left
                        · intro w'
                          go_simp
                          with_reducible rfl
                        rotate_left
                        · simp only [Act.put, nA, nB, nC, i64_w, i32_w]
                          rfl
                        refine pure_ (i := 18) (N := some 99) (v := ?_) (a' := ?_) #[true, true, true, true, true, true, true, true, true, true, true, true, true, true, true, true, true, true, true, false, false, false, false, false, false, false, false, false, false, false, false, false, false, false, false, false, false] rfl rfl (by kernel_rfl) (fun _ _ _ h => h) (Or.inl ⟨by rfl, ?_⟩) ?_ ?_
                        rotate_left
                        · intro w'
                          go_simp
                          with_reducible rfl
                        rotate_left
                        · simp only [Act.put, nA, nB, nC, i64_w, i32_w]
                          rfl
                        refine pure_ (i := 19) (N := some 100) (v := ?_) (a' := ?_) #[true, true, true, true, true, true, true, true, true, true, true, true, true, true, true, true, true, true, true, true, false, false, false, false, false, false, false, false, false, false, false, false, false, false, false, false, false] rfl rfl (by kernel_rfl) (fun _ _ _ h => h) (Or.inl ⟨by rfl, ?_⟩) ?_ ?_
                        rotate_left
                        · intro w'
                          go_simp
                          with_reducible rfl
                        rotate_left
                        · simp only [Act.put, nA, nB, nC, i64_w, i32_w]
                          rfl
                        refine pure_ (i := 20) (N := some 101) (v := ?_) (a' := ?_) #[true, true, true, true, true, true, true, true, true, true, true, true, true, true, true, true, true, true, true, true, true, false, false, false, false, false, false, false, false, false, false, false, false, false, false, false, false] rfl rfl (by kernel_rfl) (fun _ _ _ h => h) (Or.inl ⟨by rfl, ?_⟩) ?_ ?_
                        rotate_left
                        · intro w'
                          go_simp
                          with_reducible rfl
                        rotate_left
                        · simp only [Act.put, nA, nB, nC, i64_w, i32_w]
                          rfl
                        refine pure_ (i := 21) (N := some 102) (v := ?_) (a' := ?_) #[true, true, true, true, true, true, true, true, true, true, true, true, true, true, true, true, true, true, true, true, true, true, false, false, false, false, false, false, false, false, false, false, false, false, false, false, false] rfl rfl (by kernel_rfl) (fun _ _ _ h => h) (Or.inl ⟨by rfl, ?_⟩) ?_ ?_
                        rotate_left
                        · intro w'
                          go_simp
                          with_reducible rfl
                        rotate_left
                        · simp only [Act.put, nA, nB, nC, i64_w, i32_w]
                          rfl
                        refine pure_ (i := 22) (N := some 103) (v := ?_) (a' := ?_) #[true, true, true, true, true, true, true, true, true, true, true, true, true, true, true, true, true, true, true, true, true, true, true, false, false, false, false, false, false, false, false, false, false, false, false, false, false] rfl rfl (by kernel_rfl) (fun _ _ _ h => h) (Or.inl ⟨by rfl, ?_⟩) ?_ ?_
                        rotate_left
                        · intro w'
                          go_simp
                          with_reducible rfl
                        rotate_left
                        · simp only [Act.put, nA, nB, nC, i64_w, i32_w]
                          rfl
                        refine take_ (i := 23) (N := some 104) (v := ?_) (a' := ?_) #[true, true, true, true, true, true, true, true, true, true, true, true, true, true, true, true, true, true, true, true, true, true, true, true, false, false, false, false, false, false, false, false, false, false, false, false, false] rfl rfl (by kernel_rfl) (fun _ _ _ h => h) (Or.inl ⟨by rfl, ?_⟩) hHeld ?_ ?_
                        rotate_left
                        · rintro w' ⟨s0, s1, s2, s3⟩
                          go_simp
                          with_reducible rfl
                        rotate_left
                        · simp only [Act.put, nA, nB, nC, i64_w, i32_w]
                          rfl
                        refine pure_ (i := 24) (N := some 105) (v := ?_) (a' := ?_) #[true, true, true, true, true, true, true, true, true, true, true, true, true, true, true, true, true, true, true, true, true, true, true, true, true, false, false, false, false, false, false, false, false, false, false, false, false] rfl rfl (by kernel_rfl) (fun _ _ _ h => h) (Or.inl ⟨by rfl, ?_⟩) ?_ ?_
                        rotate_left
                        · intro w'
                          go_simp
                          with_reducible rfl
                        rotate_left
                        · simp only [Act.put, nA, nB, nC, i64_w, i32_w]
                          rfl
                        refine pure_ (i := 25) (N := some 106) (v := ?_) (a' := ?_) #[true, true, true, true, true, true, true, true, true, true, true, true, true, true, true, true, true, true, true, true, true, true, true, true, true, true, false, false, false, false, false, false, false, false, false, false, false] rfl rfl (by kernel_rfl) (fun _ _ _ h => h) (Or.inl ⟨by rfl, ?_⟩) ?_ ?_
                        rotate_left
                        · intro w'
                          go_simp
                          with_reducible rfl
                        rotate_left
                        · simp only [Act.put, nA, nB, nC, i64_w, i32_w]
                          rfl
                        refine pure_ (i := 26) (N := some 107) (v := ?_) (a' := ?_) #[true, true, true, true, true, true, true, true, true, true, true, true, true, true, true, true, true, true, true, true, true, true, true, true, true, true, true, false, false, false, false, false, false, false, false, false, false] rfl rfl (by kernel_rfl) (fun _ _ _ h => h) (Or.inl ⟨by rfl, ?_⟩) ?_ ?_
                        rotate_left
                        · intro w'
                          go_simp
                          with_reducible rfl
                        rotate_left
                        · simp only [Act.put, nA, nB, nC, i64_w, i32_w]
                          rfl
                        refine pure_ (i := 27) (N := some 108) (v := undef) (a' := ?_) #[true, true, true, true, true, true, true, true, true, true, true, true, true, true, true, true, true, true, true, true, true, true, true, true, true, true, true, true, false, false, false, false, false, false, false, false, false] rfl rfl (by kernel_rfl) (fun _ _ _ h => h) (Or.inr ⟨by rfl, rfl⟩) ?_ ?_
                        rotate_left
                        · simp only [Act.put, nA, nB, nC, i64_w, i32_w]
                          rfl
                        refine pure_ (i := 28) (N := some 109) (v := undef) (a' := ?_) #[true, true, true, true, true, true, true, true, true, true, true, true, true, true, true, true, true, true, true, true, true, true, true, true, true, true, true, true, true, false, false, false, false, false, false, false, false] rfl rfl (by kernel_rfl) (fun _ _ _ h => h) (Or.inr ⟨by rfl, rfl⟩) ?_ ?_
                        rotate_left
                        · simp only [Act.put, nA, nB, nC, i64_w, i32_w]
                          rfl
                        refine pure_ (i := 29) (N := some 110) (v := undef) (a' := ?_) #[true, true, true, true, true, true, true, true, true, true, true, true, true, true, true, true, true, true, true, true, true, true, true, true, true, true, true, true, true, true, false, false, false, false, false, false, false] rfl rfl (by kernel_rfl) (fun _ _ _ h => h) (Or.inr ⟨by rfl, rfl⟩) ?_ ?_
                        rotate_left
                        · simp only [Act.put, nA, nB, nC, i64_w, i32_w]
                          rfl
                        refine pure_ (i := 30) (N := some 111) (v := undef) (a' := ?_) #[true, true, true, true, true, true, true, true, true, true, true, true, true, true, true, true, true, true, true, true, true, true, true, true, true, true, true, true, true, true, true, false, false, false, false, false, false] rfl rfl (by kernel_rfl) (fun _ _ _ h => h) (Or.inr ⟨by rfl, rfl⟩) ?_ ?_
                        rotate_left
                        · simp only [Act.put, nA, nB, nC, i64_w, i32_w]
                          rfl
                        refine pure_ (i := 31) (N := some 112) (v := undef) (a' := ?_) #[true, true, true, true, true, true, true, true, true, true, true, true, true, true, true, true, true, true, true, true, true, true, true, true, true, true, true, true, true, true, true, true, false, false, false, false, false] rfl rfl (by kernel_rfl) (fun _ _ _ h => h) (Or.inr ⟨by rfl, rfl⟩) ?_ ?_
                        rotate_left
                        · simp only [Act.put, nA, nB, nC, i64_w, i32_w]
                          rfl
                        refine pure_ (i := 32) (N := some 113) (v := undef) (a' := ?_) #[true, true, true, true, true, true, true, true, true, true, true, true, true, true, true, true, true, true, true, true, true, true, true, true, true, true, true, true, true, true, true, true, true, false, false, false, false] rfl rfl (by kernel_rfl) (fun _ _ _ h => h) (Or.inr ⟨by rfl, rfl⟩) ?_ ?_
                        rotate_left
                        · simp only [Act.put, nA, nB, nC, i64_w, i32_w]
                          rfl
                        refine pure_ (i := 33) (N := some 114) (v := undef) (a' := ?_) #[true, true, true, true, true, true, true, true, true, true, true, true, true, true, true, true, true, true, true, true, true, true, true, true, true, true, true, true, true, true, true, true, true, true, false, false, false] rfl rfl (by kernel_rfl) (fun _ _ _ h => h) (Or.inr ⟨by rfl, rfl⟩) ?_ ?_
                        rotate_left
                        · simp only [Act.put, nA, nB, nC, i64_w, i32_w]
                          rfl
                        refine pure_ (i := 34) (N := some 115) (v := undef) (a' := ?_) #[true, true, true, true, true, true, true, true, true, true, true, true, true, true, true, true, true, true, true, true, true, true, true, true, true, true, true, true, true, true, true, true, true, true, true, false, false] rfl rfl (by kernel_rfl) (fun _ _ _ h => h) (Or.inr ⟨by rfl, rfl⟩) ?_ ?_
                        rotate_left
                        · simp only [Act.put, nA, nB, nC, i64_w, i32_w]
                          rfl
                        refine pure_ (i := 35) (N := some 116) (v := undef) (a' := ?_) #[true, true, true, true, true, true, true, true, true, true, true, true, true, true, true, true, true, true, true, true, true, true, true, true, true, true, true, true, true, true, true, true, true, true, true, true, false] rfl rfl (by kernel_rfl) (fun _ _ _ h => h) (Or.inr ⟨by rfl, rfl⟩) ?_ ?_
                        rotate_left
                        · simp only [Act.put, nA, nB, nC, i64_w, i32_w]
                          rfl
                        refine pure_ (i := 36) (N := some 117) (v := ?_) (a' := ?_) #[true, true, true, true, true, true, true, true, true, true, true, true, true, true, true, true, true, true, true, true, true, true, true, true, true, true, true, true, true, true, true, true, true, true, true, true, true] rfl rfl (by kernel_rfl) (fun _ _ _ h => h) (Or.inl ⟨by rfl, ?_⟩) ?_ ?_
                        rotate_left
                        · intro w'
                          go_simp
                          with_reducible rfl
                        rotate_left
                        · simp only [Act.put, nA, nB, nC, i64_w, i32_w]
                          rfl
                        try clear hHeld
                        refine done_ (by kernel_rfl) ?_
                        clear t3 t2 pk pi
                        go_wp2_with fail
                        go_roundw
                        case rel => exact ⟨k + 1, by omega, by go_num, HK.out.drew⟩
                        case measure => simp [intOf]; omega
                    · have dc2 : decide ((R.cat i).to < ((R.cat k).frm : Int)) = false := decide_eq_false c2
                      go_wp2_with fail
                      refine start_ (n := 37) (S := fun w' => w'.cell? ⟨gc, i * 8 + 3, none⟩ = some (.int .i64 (R.cat i).to) ∧ w'.cell? ⟨gc, k * 8 + 2, none⟩ = some (.int .i64 (R.cat k).frm) ∧ w'.cell? ⟨gp, k, none⟩ = some (.int .i64 (pl k)) ∧ w'.cell? ⟨gp, i, none⟩ = some (.int .i64 (pl i))) (ds := []) #[false, false, false, false, false, false, false, false, false, false, false, false, false, false, false, false, false, false, false, false, false, false, false, false, false, false, false, false, false, false, false, false, false, false, false, false, false] (by kernel_rfl) rfl rfl ⟨t3, t2, pk, pi⟩ (fun hHeld => ?_)
                      refine pure_ (i := 0) (N := some 81) (v := ?_) (a' := ?_) #[true, false, false, false, false, false, false, false, false, false, false, false, false, false, false, false, false, false, false, false, false, false, false, false, false, false, false, false, false, false, false, false, false, false, false, false, false] rfl rfl (by kernel_rfl) (fun _ _ _ h => h) (Or.inl ⟨by rfl, ?_⟩) ?_ ?_
                      rotate_left
                      · intro w'
                        go_simp
                        with_reducible rfl
                      rotate_left
                      · simp only [Act.put, nA, nB, nC, i64_w, i32_w]
                        rfl
                      refine pure_ (i := 1) (N := some 82) (v := ?_) (a' := ?_) #[true, true, false, false, false, false, false, false, false, false, false, false, false, false, false, false, false, false, false, false, false, false, false, false, false, false, false, false, false, false, false, false, false, false, false, false, false] rfl rfl (by kernel_rfl) (fun _ _ _ h => h) (Or.inl ⟨by rfl, ?_⟩) ?_ ?_
                      rotate_left
                      · intro w'
                        go_simp
                        with_reducible rfl
                      rotate_left
                      · simp only [Act.put, nA, nB, nC, i64_w, i32_w]
                        rfl
                      refine pure_ (i := 2) (N := some 83) (v := ?_) (a' := ?_) #[true, true, true, false, false, false, false, false, false, false, false, false, false, false, false, false, false, false, false, false, false, false, false, false, false, false, false, false, false, false, false, false, false, false, false, false, false] rfl rfl (by kernel_rfl) (fun _ _ _ h => h) (Or.inl ⟨by rfl, ?_⟩) ?_ ?_
                      rotate_left
                      · intro w'
                        go_simp
                        with_reducible rfl
                      rotate_left
                      · simp only [Act.put, nA, nB, nC, i64_w, i32_w]
                        rfl
                      refine pure_ (i := 3) (N := some 84) (v := ?_) (a' := ?_) #[true, true, true, true, false, false, false, false, false, false, false, false, false, false, false, false, false, false, false, false, false, false, false, false, false, false, false, false, false, false, false, false, false, false, false, false, false] rfl rfl (by kernel_rfl) (fun _ _ _ h => h) (Or.inl ⟨by rfl, ?_⟩) ?_ ?_
                      rotate_left
                      · intro w'
                        go_simp
                        with_reducible rfl
                      rotate_left
                      · simp only [Act.put, nA, nB, nC, i64_w, i32_w]
                        rfl
                      refine take_ (i := 4) (N := some 85) (v := ?_) (a' := ?_) #[true, true, true, true, true, false, false, false, false, false, false, false, false, false, false, false, false, false, false, false, false, false, false, false, false, false, false, false, false, false, false, false, false, false, false, false, false] rfl rfl (by kernel_rfl) (fun _ _ _ h => h) (Or.inl ⟨by rfl, ?_⟩) hHeld ?_ ?_
                      rotate_left
                      · rintro w' ⟨s0, s1, s2, s3⟩
                        go_simp
                        with_reducible rfl
                      rotate_left
                      · simp only [Act.put, nA, nB, nC, i64_w, i32_w]
                        rfl
                      refine pure_ (i := 5) (N := some 86) (v := ?_) (a' := ?_) #[true, true, true, true, true, true, false, false, false, false, false, false, false, false, false, false, false, false, false, false, false, false, false, false, false, false, false, false, false, false, false, false, false, false, false, false, false] rfl rfl (by kernel_rfl) (fun _ _ _ h => h) (Or.inl ⟨by rfl, ?_⟩) ?_ ?_
                      rotate_left
                      · intro w'
                        go_simp
                        with_reducible rfl
                      rotate_left
                      · simp only [Act.put, nA, nB, nC, i64_w, i32_w]
                        rfl
                      refine pure_ (i := 6) (N := some 87) (v := ?_) (a' := ?_) #[true, true, true, true, true, true, true, false, false, false, false, false, false, false, false, false, false, false, false, false, false, false, false, false, false, false, false, false, false, false, false, false, false, false, false, false, false] rfl rfl (by kernel_rfl) (fun _ _ _ h => h) (Or.inl ⟨by rfl, ?_⟩) ?_ ?_
                      rotate_left
                      · intro w'
                        go_simp
                        with_reducible rfl
                      rotate_left
                      · simp only [Act.put, nA, nB, nC, i64_w, i32_w]
                        rfl
                      refine pure_ (i := 7) (N := some 88) (v := ?_) (a' := ?_) #[true, true, true, true, true, true, true, true, false, false, false, false, false, false, false, false, false, false, false, false, false, false, false, false, false, false, false, false, false, false, false, false, false, false, false, false, false] rfl rfl (by kernel_rfl) (fun _ _ _ h => h) (Or.inl ⟨by rfl, ?_⟩) ?_ ?_
                      rotate_left
                      · intro w'
                        go_simp
                        with_reducible rfl
                      rotate_left
                      · simp only [Act.put, nA, nB, nC, i64_w, i32_w]
                        rfl
                      refine pure_ (i := 8) (N := some 89) (v := ?_) (a' := ?_) #[true, true, true, true, true, true, true, true, true, false, false, false, false, false, false, false, false, false, false, false, false, false, false, false, false, false, false, false, false, false, false, false, false, false, false, false, false] rfl rfl (by kernel_rfl) (fun _ _ _ h => h) (Or.inl ⟨by rfl, ?_⟩) ?_ ?_
                      rotate_left
                      · intro w'
                        go_simp
                        with_reducible rfl
                      rotate_left
                      · simp only [Act.put, nA, nB, nC, i64_w, i32_w]
                        rfl
                      refine pure_ (i := 9) (N := some 90) (v := ?_) (a' := ?_) #[true, true, true, true, true, true, true, true, true, true, false, false, false, false, false, false, false, false, false, false, false, false, false, false, false, false, false, false, false, false, false, false, false, false, false, false, false] rfl rfl (by kernel_rfl) (fun _ _ _ h => h) (Or.inl ⟨by rfl, ?_⟩) ?_ ?_
                      rotate_left
                      · intro w'
                        go_simp
                        with_reducible rfl
                      rotate_left
                      · simp only [Act.put, nA, nB, nC, i64_w, i32_w]
                        rfl
                      refine pure_ (i := 10) (N := some 91) (v := ?_) (a' := ?_) #[true, true, true, true, true, true, true, true, true, true, true, false, false, false, false, false, false, false, false, false, false, false, false, false, false, false, false, false, false, false, false, false, false, false, false, false, false] rfl rfl (by kernel_rfl) (fun _ _ _ h => h) (Or.inl ⟨by rfl, ?_⟩) ?_ ?_
                      rotate_left
                      · intro w'
                        go_simp
                        with_reducible rfl
                      rotate_left
                      · simp only [Act.put, nA, nB, nC, i64_w, i32_w]
                        rfl
                      refine pure_ (i := 12) (N := some 93) (v := ?_) (a' := ?_) #[true, true, true, true, true, true, true, true, true, true, true, false, true, false, false, false, false, false, false, false, false, false, false, false, false, false, false, false, false, false, false, false, false, false, false, false, false] rfl rfl (by kernel_rfl) (fun _ _ _ h => h) (Or.inl ⟨by rfl, ?_⟩) ?_ ?_
                      rotate_left
                      · intro w'
                        go_simp
                        with_reducible rfl
                      rotate_left
                      · simp only [Act.put, nA, nB, nC, i64_w, i32_w]
                        rfl
                      refine pure_ (i := 13) (N := some 94) (v := ?_) (a' := ?_) #[true, true, true, true, true, true, true, true, true, true, true, false, true, true, false, false, false, false, false, false, false, false, false, false, false, false, false, false, false, false, false, false, false, false, false, false, false] rfl rfl (by kernel_rfl) (fun _ _ _ h => h) (Or.inl ⟨by rfl, ?_⟩) ?_ ?_
                      rotate_left
                      · intro w'
                        go_simp
                        with_reducible rfl
                      rotate_left
                      · simp only [Act.put, nA, nB, nC, i64_w, i32_w]
                        rfl
                      refine pure_ (i := 14) (N := some 95) (v := ?_) (a' := ?_) #[true, true, true, true, true, true, true, true, true, true, true, false, true, true, true, false, false, false, false, false, false, false, false, false, false, false, false, false, false, false, false, false, false, false, false, false, false] rfl rfl (by kernel_rfl) (fun _ _ _ h => h) (Or.inl ⟨by rfl, ?_⟩) ?_ ?_
                      rotate_left
                      · intro w'
                        go_simp
                        with_reducible rfl
                      rotate_left
                      · simp only [Act.put, nA, nB, nC, i64_w, i32_w]
                        rfl
                      refine pure_ (i := 15) (N := some 96) (v := ?_) (a' := ?_) #[true, true, true, true, true, true, true, true, true, true, true, false, true, true, true, true, false, false, false, false, false, false, false, false, false, false, false, false, false, false, false, false, false, false, false, false, false] rfl rfl (by kernel_rfl) (fun _ _ _ h => h) (Or.inl ⟨by rfl, ?_⟩) ?_ ?_
                      rotate_left
                      · intro w'
                        go_simp
                        with_reducible rfl
                      rotate_left
                      · simp only [Act.put, nA, nB, nC, i64_w, i32_w]
                        rfl
                      refine take_ (i := 11) (N := some 92) (v := ?_) (a' := ?_) #[true, true, true, true, true, true, true, true, true, true, true, true, true, true, true, true, false, false, false, false, false, false, false, false, false, false, false, false, false, false, false, false, false, false, false, false, false] rfl rfl (by kernel_rfl) (fun _ _ _ h => h) (Or.inl ⟨by rfl, ?_⟩) hHeld ?_ ?_
                      rotate_left
                      · rintro w' ⟨s0, s1, s2, s3⟩
                        go_simp
                        with_reducible rfl
                      rotate_left
                      · simp only [Act.put, nA, nB, nC, i64_w, i32_w]
                        rfl
                      refine take_ (i := 16) (N := some 97) (v := ?_) (a' := ?_) #[true, true, true, true, true, true, true, true, true, true, true, true, true, true, true, true, true, false, false, false, false, false, false, false, false, false, false, false, false, false, false, false, false, false, false, false, false] rfl rfl (by kernel_rfl) (fun _ _ _ h => h) (Or.inl ⟨by rfl, ?_⟩) hHeld ?_ ?_
                      rotate_left
                      · rintro w' ⟨s0, s1, s2, s3⟩
                        go_simp
                        with_reducible rfl
                      rotate_left
                      · simp only [Act.put, nA, nB, nC, i64_w, i32_w]
                        rfl
                      refine pure_ (i := 17) (N := some 98) (v := ?_) (a' := ?_) #[true, true, true, true, true, true, true, true, true, true, true, true, true, true, true, true, true, true, false, false, false, false, false, false, false, false, false, false, false, false, false, false, false, false, false, false, false] rfl rfl (by kernel_rfl) (fun _ _ _ h => h) (Or.inl ⟨by rfl, ?_⟩) ?_ ?_
                      rotate_left
                      · intro w'
                        go_simp
                        with_reducible rfl
                      rotate_left
                      · simp only [Act.put, nA, nB, nC, i64_w, i32_w]
                        rfl
                      refine pure_ (i := 18) (N := some 99) (v := ?_) (a' := ?_) #[true, true, true, true, true, true, true, true, true, true, true, true, true, true, true, true, true, true, true, false, false, false, false, false, false, false, false, false, false, false, false, false, false, false, false, false, false] rfl rfl (by kernel_rfl) (fun _ _ _ h => h) (Or.inl ⟨by rfl, ?_⟩) ?_ ?_
                      rotate_left
                      · intro w'
                        go_simp
                        with_reducible rfl
                      rotate_left
                      · simp only [Act.put, nA, nB, nC, i64_w, i32_w]
                        rfl
                      refine pure_ (i := 19) (N := some 100) (v := ?_) (a' := ?_) #[true, true, true, true, true, true, true, true, true, true, true, true, true, true, true, true, true, true, true, true, false, false, false, false, false, false, false, false, false, false, false, false, false, false, false, false, false] rfl rfl (by kernel_rfl) (fun _ _ _ h => h) (Or.inl ⟨by rfl, ?_⟩) ?_ ?_
                      rotate_left
                      · intro w'
                        go_simp
                        with_reducible rfl
                      rotate_left
                      · simp only [Act.put, nA, nB, nC, i64_w, i32_w]
                        rfl
                      refine pure_ (i := 20) (N := some 101) (v := undef) (a' := ?_) #[true, true, true, true, true, true, true, true, true, true, true, true, true, true, true, true, true, true, true, true, true, false, false, false, false, false, false, false, false, false, false, false, false, false, false, false, false] rfl rfl (by kernel_rfl) (fun _ _ _ h => h) (Or.inr ⟨by rfl, rfl⟩) ?_ ?_
                      rotate_left
                      · simp only [Act.put, nA, nB, nC, i64_w, i32_w]
                        rfl
                      refine pure_ (i := 21) (N := some 102) (v := undef) (a' := ?_) #[true, true, true, true, true, true, true, true, true, true, true, true, true, true, true, true, true, true, true, true, true, true, false, false, false, false, false, false, false, false, false, false, false, false, false, false, false] rfl rfl (by kernel_rfl) (fun _ _ _ h => h) (Or.inr ⟨by rfl, rfl⟩) ?_ ?_
                      rotate_left
                      · simp only [Act.put, nA, nB, nC, i64_w, i32_w]
                        rfl
                      refine pure_ (i := 22) (N := some 103) (v := undef) (a' := ?_) #[true, true, true, true, true, true, true, true, true, true, true, true, true, true, true, true, true, true, true, true, true, true, true, false, false, false, false, false, false, false, false, false, false, false, false, false, false] rfl rfl (by kernel_rfl) (fun _ _ _ h => h) (Or.inr ⟨by rfl, rfl⟩) ?_ ?_
                      rotate_left
                      · simp only [Act.put, nA, nB, nC, i64_w, i32_w]
                        rfl
                      refine pure_ (i := 23) (N := some 104) (v := undef) (a' := ?_) #[true, true, true, true, true, true, true, true, true, true, true, true, true, true, true, true, true, true, true, true, true, true, true, true, false, false, false, false, false, false, false, false, false, false, false, false, false] rfl rfl (by kernel_rfl) (fun _ _ _ h => h) (Or.inr ⟨by rfl, rfl⟩) ?_ ?_
                      rotate_left
                      · simp only [Act.put, nA, nB, nC, i64_w, i32_w]
                        rfl
                      refine pure_ (i := 24) (N := some 105) (v := undef) (a' := ?_) #[true, true, true, true, true, true, true, true, true, true, true, true, true, true, true, true, true, true, true, true, true, true, true, true, true, false, false, false, false, false, false, false, false, false, false, false, false] rfl rfl (by kernel_rfl) (fun _ _ _ h => h) (Or.inr ⟨by rfl, rfl⟩) ?_ ?_
                      rotate_left
                      · simp only [Act.put, nA, nB, nC, i64_w, i32_w]
                        rfl
                      refine pure_ (i := 25) (N := some 106) (v := ?_) (a' := ?_) #[true, true, true, true, true, true, true, true, true, true, true, true, true, true, true, true, true, true, true, true, true, true, true, true, true, true, false, false, false, false, false, false, false, false, false, false, false] rfl rfl (by kernel_rfl) (fun _ _ _ h => h) (Or.inl ⟨by rfl, ?_⟩) ?_ ?_
                      rotate_left
                      · intro w'
                        go_simp
                        with_reducible rfl
                      rotate_left
                      · simp only [Act.put, nA, nB, nC, i64_w, i32_w]
                        rfl
                      refine pure_ (i := 26) (N := some 107) (v := ?_) (a' := ?_) #[true, true, true, true, true, true, true, true, true, true, true, true, true, true, true, true, true, true, true, true, true, true, true, true, true, true, true, false, false, false, false, false, false, false, false, false, false] rfl rfl (by kernel_rfl) (fun _ _ _ h => h) (Or.inl ⟨by rfl, ?_⟩) ?_ ?_
                      rotate_left
                      · intro w'
                        go_simp
                        with_reducible rfl
                      rotate_left
                      · simp only [Act.put, nA, nB, nC, i64_w, i32_w]
                        rfl
                      refine pure_ (i := 27) (N := some 108) (v := undef) (a' := ?_) #[true, true, true, true, true, true, true, true, true, true, true, true, true, true, true, true, true, true, true, true, true, true, true, true, true, true, true, true, false, false, false, false, false, false, false, false, false] rfl rfl (by kernel_rfl) (fun _ _ _ h => h) (Or.inr ⟨by rfl, rfl⟩) ?_ ?_
                      rotate_left
                      · simp only [Act.put, nA, nB, nC, i64_w, i32_w]
                        rfl
                      refine pure_ (i := 28) (N := some 109) (v := undef) (a' := ?_) #[true, true, true, true, true, true, true, true, true, true, true, true, true, true, true, true, true, true, true, true, true, true, true, true, true, true, true, true, true, false, false, false, false, false, false, false, false] rfl rfl (by kernel_rfl) (fun _ _ _ h => h) (Or.inr ⟨by rfl, rfl⟩) ?_ ?_
                      rotate_left
                      · simp only [Act.put, nA, nB, nC, i64_w, i32_w]
                        rfl
                      refine pure_ (i := 29) (N := some 110) (v := undef) (a' := ?_) #[true, true, true, true, true, true, true, true, true, true, true, true, true, true, true, true, true, true, true, true, true, true, true, true, true, true, true, true, true, true, false, false, false, false, false, false, false] rfl rfl (by kernel_rfl) (fun _ _ _ h => h) (Or.inr ⟨by rfl, rfl⟩) ?_ ?_
                      rotate_left
                      · simp only [Act.put, nA, nB, nC, i64_w, i32_w]
                        rfl
                      refine pure_ (i := 30) (N := some 111) (v := undef) (a' := ?_) #[true, true, true, true, true, true, true, true, true, true, true, true, true, true, true, true, true, true, true, true, true, true, true, true, true, true, true, true, true, true, true, false, false, false, false, false, false] rfl rfl (by kernel_rfl) (fun _ _ _ h => h) (Or.inr ⟨by rfl, rfl⟩) ?_ ?_
                      rotate_left
                      · simp only [Act.put, nA, nB, nC, i64_w, i32_w]
                        rfl
                      refine pure_ (i := 31) (N := some 112) (v := undef) (a' := ?_) #[true, true, true, true, true, true, true, true, true, true, true, true, true, true, true, true, true, true, true, true, true, true, true, true, true, true, true, true, true, true, true, true, false, false, false, false, false] rfl rfl (by kernel_rfl) (fun _ _ _ h => h) (Or.inr ⟨by rfl, rfl⟩) ?_ ?_
                      rotate_left
                      · simp only [Act.put, nA, nB, nC, i64_w, i32_w]
                        rfl
                      refine pure_ (i := 32) (N := some 113) (v := undef) (a' := ?_) #[true, true, true, true, true, true, true, true, true, true, true, true, true, true, true, true, true, true, true, true, true, true, true, true, true, true, true, true, true, true, true, true, true, false, false, false, false] rfl rfl (by kernel_rfl) (fun _ _ _ h => h) (Or.inr ⟨by rfl, rfl⟩) ?_ ?_
                      rotate_left
                      · simp only [Act.put, nA, nB, nC, i64_w, i32_w]
                        rfl
                      refine pure_ (i := 33) (N := some 114) (v := undef) (a' := ?_) #[true, true, true, true, true, true, true, true, true, true, true, true, true, true, true, true, true, true, true, true, true, true, true, true, true, true, true, true, true, true, true, true, true, true, false, false, false] rfl rfl (by kernel_rfl) (fun _ _ _ h => h) (Or.inr ⟨by rfl, rfl⟩) ?_ ?_
                      rotate_left
                      · simp only [Act.put, nA, nB, nC, i64_w, i32_w]
                        rfl
                      refine pure_ (i := 34) (N := some 115) (v := undef) (a' := ?_) #[true, true, true, true, true, true, true, true, true, true, true, true, true, true, true, true, true, true, true, true, true, true, true, true, true, true, true, true, true, true, true, true, true, true, true, false, false] rfl rfl (by kernel_rfl) (fun _ _ _ h => h) (Or.inr ⟨by rfl, rfl⟩) ?_ ?_
                      rotate_left
                      · simp only [Act.put, nA, nB, nC, i64_w, i32_w]
                        rfl
                      refine pure_ (i := 35) (N := some 116) (v := undef) (a' := ?_) #[true, true, true, true, true, true, true, true, true, true, true, true, true, true, true, true, true, true, true, true, true, true, true, true, true, true, true, true, true, true, true, true, true, true, true, true, false] rfl rfl (by kernel_rfl) (fun _ _ _ h => h) (Or.inr ⟨by rfl, rfl⟩) ?_ ?_
                      rotate_left
                      · simp only [Act.put, nA, nB, nC, i64_w, i32_w]
                        rfl
                      refine pure_ (i := 36) (N := some 117) (v := ?_) (a' := ?_) #[true, true, true, true, true, true, true, true, true, true, true, true, true, true, true, true, true, true, true, true, true, true, true, true, true, true, true, true, true, true, true, true, true, true, true, true, true] rfl rfl (by kernel_rfl) (fun _ _ _ h => h) (Or.inl ⟨by rfl, ?_⟩) ?_ ?_
                      rotate_left
                      · intro w'
                        go_simp
                        with_reducible rfl
                      rotate_left
                      · simp only [Act.put, nA, nB, nC, i64_w, i32_w]
                        rfl
                      try clear hHeld
                      refine done_ (by kernel_rfl) ?_
                      clear t3 t2 pk pi
                      go_wp2_with fail
                      go_roundw
                      case rel => exact ⟨k + 1, by omega, by go_num, HK.out.drew⟩
                      case measure => simp [intOf]; omega
                  · have dc1 : decide (0 ≤ (R.cat i).to) = false := decide_eq_false c1
                    go_wp2_with fail
                    refine start_ (n := 37) (S := fun w' => w'.cell? ⟨gc, i * 8 + 3, none⟩ = some (.int .i64 (R.cat i).to) ∧ w'.cell? ⟨gc, k * 8 + 2, none⟩ = some (.int .i64 (R.cat k).frm) ∧ w'.cell? ⟨gp, k, none⟩ = some (.int .i64 (pl k)) ∧ w'.cell? ⟨gp, i, none⟩ = some (.int .i64 (pl i))) (ds := []) #[false, false, false, false, false, false, false, false, false, false, false, false, false, false, false, false, false, false, false, false, false, false, false, false, false, false, false, false, false, false, false, false, false, false, false, false, false] (by kernel_rfl) rfl rfl ⟨t3, t2, pk, pi⟩ (fun hHeld => ?_)
                    refine pure_ (i := 0) (N := some 81) (v := ?_) (a' := ?_) #[true, false, false, false, false, false, false, false, false, false, false, false, false, false, false, false, false, false, false, false, false, false, false, false, false, false, false, false, false, false, false, false, false, false, false, false, false] rfl rfl (by kernel_rfl) (fun _ _ _ h => h) (Or.inl ⟨by rfl, ?_⟩) ?_ ?_
                    rotate_left
                    · intro w'
                      go_simp
                      with_reducible rfl
                    rotate_left
                    · simp only [Act.put, nA, nB, nC, i64_w, i32_w]
                      rfl
                    refine pure_ (i := 1) (N := some 82) (v := ?_) (a' := ?_) #[true, true, false, false, false, false, false, false, false, false, false, false, false, false, false, false, false, false, false, false, false, false, false, false, false, false, false, false, false, false, false, false, false, false, false, false, false] rfl rfl (by kernel_rfl) (fun _ _ _ h => h) (Or.inl ⟨by rfl, ?_⟩) ?_ ?_
                    rotate_left
                    · intro w'
                      go_simp
                      with_reducible rfl
                    rotate_left
                    · simp only [Act.put, nA, nB, nC, i64_w, i32_w]
                      rfl
                    refine pure_ (i := 2) (N := some 83) (v := ?_) (a' := ?_) #[true, true, true, false, false, false, false, false, false, false, false, false, false, false, false, false, false, false, false, false, false, false, false, false, false, false, false, false, false, false, false, false, false, false, false, false, false] rfl rfl (by kernel_rfl) (fun _ _ _ h => h) (Or.inl ⟨by rfl, ?_⟩) ?_ ?_
                    rotate_left
                    · intro w'
                      go_simp
                      with_reducible rfl
                    rotate_left
                    · simp only [Act.put, nA, nB, nC, i64_w, i32_w]
                      rfl
                    refine pure_ (i := 3) (N := some 84) (v := ?_) (a' := ?_) #[true, true, true, true, false, false, false, false, false, false, false, false, false, false, false, false, false, false, false, false, false, false, false, false, false, false, false, false, false, false, false, false, false, false, false, false, false] rfl rfl (by kernel_rfl) (fun _ _ _ h => h) (Or.inl ⟨by rfl, ?_⟩) ?_ ?_
                    rotate_left
                    · intro w'
                      go_simp
                      with_reducible rfl
                    rotate_left
                    · simp only [Act.put, nA, nB, nC, i64_w, i32_w]
                      rfl
                    refine take_ (i := 4) (N := some 85) (v := ?_) (a' := ?_) #[true, true, true, true, true, false, false, false, false, false, false, false, false, false, false, false, false, false, false, false, false, false, false, false, false, false, false, false, false, false, false, false, false, false, false, false, false] rfl rfl (by kernel_rfl) (fun _ _ _ h => h) (Or.inl ⟨by rfl, ?_⟩) hHeld ?_ ?_
                    rotate_left
                    · rintro w' ⟨s0, s1, s2, s3⟩
                      go_simp
                      with_reducible rfl
                    rotate_left
                    · simp only [Act.put, nA, nB, nC, i64_w, i32_w]
                      rfl
                    refine pure_ (i := 5) (N := some 86) (v := ?_) (a' := ?_) #[true, true, true, true, true, true, false, false, false, false, false, false, false, false, false, false, false, false, false, false, false, false, false, false, false, false, false, false, false, false, false, false, false, false, false, false, false] rfl rfl (by kernel_rfl) (fun _ _ _ h => h) (Or.inl ⟨by rfl, ?_⟩) ?_ ?_
                    rotate_left
                    · intro w'
                      go_simp
                      with_reducible rfl
                    rotate_left
                    · simp only [Act.put, nA, nB, nC, i64_w, i32_w]
                      rfl
                    refine pure_ (i := 6) (N := some 87) (v := ?_) (a' := ?_) #[true, true, true, true, true, true, true, false, false, false, false, false, false, false, false, false, false, false, false, false, false, false, false, false, false, false, false, false, false, false, false, false, false, false, false, false, false] rfl rfl (by kernel_rfl) (fun _ _ _ h => h) (Or.inl ⟨by rfl, ?_⟩) ?_ ?_
                    rotate_left
                    · intro w'
                      go_simp
                      with_reducible rfl
                    rotate_left
                    · simp only [Act.put, nA, nB, nC, i64_w, i32_w]
                      rfl
                    refine pure_ (i := 7) (N := some 88) (v := undef) (a' := ?_) #[true, true, true, true, true, true, true, true, false, false, false, false, false, false, false, false, false, false, false, false, false, false, false, false, false, false, false, false, false, false, false, false, false, false, false, false, false] rfl rfl (by kernel_rfl) (fun _ _ _ h => h) (Or.inr ⟨by rfl, rfl⟩) ?_ ?_
                    rotate_left
                    · simp only [Act.put, nA, nB, nC, i64_w, i32_w]
                      rfl
                    refine pure_ (i := 8) (N := some 89) (v := undef) (a' := ?_) #[true, true, true, true, true, true, true, true, true, false, false, false, false, false, false, false, false, false, false, false, false, false, false, false, false, false, false, false, false, false, false, false, false, false, false, false, false] rfl rfl (by kernel_rfl) (fun _ _ _ h => h) (Or.inr ⟨by rfl, rfl⟩) ?_ ?_
                    rotate_left
                    · simp only [Act.put, nA, nB, nC, i64_w, i32_w]
                      rfl
                    refine pure_ (i := 9) (N := some 90) (v := undef) (a' := ?_) #[true, true, true, true, true, true, true, true, true, true, false, false, false, false, false, false, false, false, false, false, false, false, false, false, false, false, false, false, false, false, false, false, false, false, false, false, false] rfl rfl (by kernel_rfl) (fun _ _ _ h => h) (Or.inr ⟨by rfl, rfl⟩) ?_ ?_
                    rotate_left
                    · simp only [Act.put, nA, nB, nC, i64_w, i32_w]
                      rfl
                    refine pure_ (i := 10) (N := some 91) (v := undef) (a' := ?_) #[true, true, true, true, true, true, true, true, true, true, true, false, false, false, false, false, false, false, false, false, false, false, false, false, false, false, false, false, false, false, false, false, false, false, false, false, false] rfl rfl (by kernel_rfl) (fun _ _ _ h => h) (Or.inr ⟨by rfl, rfl⟩) ?_ ?_
                    rotate_left
                    · simp only [Act.put, nA, nB, nC, i64_w, i32_w]
                      rfl
                    refine pure_ (i := 11) (N := some 92) (v := undef) (a' := ?_) #[true, true, true, true, true, true, true, true, true, true, true, true, false, false, false, false, false, false, false, false, false, false, false, false, false, false, false, false, false, false, false, false, false, false, false, false, false] rfl rfl (by kernel_rfl) (fun _ _ _ h => h) (Or.inr ⟨by rfl, rfl⟩) ?_ ?_
                    rotate_left
                    · simp only [Act.put, nA, nB, nC, i64_w, i32_w]
                      rfl
                    refine pure_ (i := 12) (N := some 93) (v := undef) (a' := ?_) #[true, true, true, true, true, true, true, true, true, true, true, true, true, false, false, false, false, false, false, false, false, false, false, false, false, false, false, false, false, false, false, false, false, false, false, false, false] rfl rfl (by kernel_rfl) (fun _ _ _ h => h) (Or.inr ⟨by rfl, rfl⟩) ?_ ?_
                    rotate_left
                    · simp only [Act.put, nA, nB, nC, i64_w, i32_w]
                      rfl
                    refine pure_ (i := 13) (N := some 94) (v := undef) (a' := ?_) #[true, true, true, true, true, true, true, true, true, true, true, true, true, true, false, false, false, false, false, false, false, false, false, false, false, false, false, false, false, false, false, false, false, false, false, false, false] rfl rfl (by kernel_rfl) (fun _ _ _ h => h) (Or.inr ⟨by rfl, rfl⟩) ?_ ?_
                    rotate_left
                    · simp only [Act.put, nA, nB, nC, i64_w, i32_w]
                      rfl
                    refine pure_ (i := 14) (N := some 95) (v := undef) (a' := ?_) #[true, true, true, true, true, true, true, true, true, true, true, true, true, true, true, false, false, false, false, false, false, false, false, false, false, false, false, false, false, false, false, false, false, false, false, false, false] rfl rfl (by kernel_rfl) (fun _ _ _ h => h) (Or.inr ⟨by rfl, rfl⟩) ?_ ?_
                    rotate_left
                    · simp only [Act.put, nA, nB, nC, i64_w, i32_w]
                      rfl
                    refine pure_ (i := 15) (N := some 96) (v := undef) (a' := ?_) #[true, true, true, true, true, true, true, true, true, true, true, true, true, true, true, true, false, false, false, false, false, false, false, false, false, false, false, false, false, false, false, false, false, false, false, false, false] rfl rfl (by kernel_rfl) (fun _ _ _ h => h) (Or.inr ⟨by rfl, rfl⟩) ?_ ?_
                    rotate_left
                    · simp only [Act.put, nA, nB, nC, i64_w, i32_w]
                      rfl
                    refine pure_ (i := 16) (N := some 97) (v := undef) (a' := ?_) #[true, true, true, true, true, true, true, true, true, true, true, true, true, true, true, true, true, false, false, false, false, false, false, false, false, false, false, false, false, false, false, false, false, false, false, false, false] rfl rfl (by kernel_rfl) (fun _ _ _ h => h) (Or.inr ⟨by rfl, rfl⟩) ?_ ?_
                    rotate_left
                    · simp only [Act.put, nA, nB, nC, i64_w, i32_w]
                      rfl
                    refine pure_ (i := 17) (N := some 98) (v := undef) (a' := ?_) #[true, true, true, true, true, true, true, true, true, true, true, true, true, true, true, true, true, true, false, false, false, false, false, false, false, false, false, false, false, false, false, false, false, false, false, false, false] rfl rfl (by kernel_rfl) (fun _ _ _ h => h) (Or.inr ⟨by rfl, rfl⟩) ?_ ?_
                    rotate_left
                    · simp only [Act.put, nA, nB, nC, i64_w, i32_w]
                      rfl
                    refine pure_ (i := 18) (N := some 99) (v := ?_) (a' := ?_) #[true, true, true, true, true, true, true, true, true, true, true, true, true, true, true, true, true, true, true, false, false, false, false, false, false, false, false, false, false, false, false, false, false, false, false, false, false] rfl rfl (by kernel_rfl) (fun _ _ _ h => h) (Or.inl ⟨by rfl, ?_⟩) ?_ ?_
                    rotate_left
                    · intro w'
                      go_simp
                      with_reducible rfl
                    rotate_left
                    · simp only [Act.put, nA, nB, nC, i64_w, i32_w]
                      rfl
                    refine pure_ (i := 19) (N := some 100) (v := ?_) (a' := ?_) #[true, true, true, true, true, true, true, true, true, true, true, true, true, true, true, true, true, true, true, true, false, false, false, false, false, false, false, false, false, false, false, false, false, false, false, false, false] rfl rfl (by kernel_rfl) (fun _ _ _ h => h) (Or.inl ⟨by rfl, ?_⟩) ?_ ?_
                    rotate_left
                    · intro w'
                      go_simp
                      with_reducible rfl
                    rotate_left
                    · simp only [Act.put, nA, nB, nC, i64_w, i32_w]
                      rfl
                    refine pure_ (i := 20) (N := some 101) (v := undef) (a' := ?_) #[true, true, true, true, true, true, true, true, true, true, true, true, true, true, true, true, true, true, true, true, true, false, false, false, false, false, false, false, false, false, false, false, false, false, false, false, false] rfl rfl (by kernel_rfl) (fun _ _ _ h => h) (Or.inr ⟨by rfl, rfl⟩) ?_ ?_
                    rotate_left
                    · simp only [Act.put, nA, nB, nC, i64_w, i32_w]
                      rfl
                    refine pure_ (i := 21) (N := some 102) (v := undef) (a' := ?_) #[true, true, true, true, true, true, true, true, true, true, true, true, true, true, true, true, true, true, true, true, true, true, false, false, false, false, false, false, false, false, false, false, false, false, false, false, false] rfl rfl (by kernel_rfl) (fun _ _ _ h => h) (Or.inr ⟨by rfl, rfl⟩) ?_ ?_
                    rotate_left
                    · simp only [Act.put, nA, nB, nC, i64_w, i32_w]
                      rfl
                    refine pure_ (i := 22) (N := some 103) (v := undef) (a' := ?_) #[true, true, true, true, true, true, true, true, true, true, true, true, true, true, true, true, true, true, true, true, true, true, true, false, false, false, false, false, false, false, false, false, false, false, false, false, false] rfl rfl (by kernel_rfl) (fun _ _ _ h => h) (Or.inr ⟨by rfl, rfl⟩) ?_ ?_
                    rotate_left
                    · simp only [Act.put, nA, nB, nC, i64_w, i32_w]
                      rfl
                    refine pure_ (i := 23) (N := some 104) (v := undef) (a' := ?_) #[true, true, true, true, true, true, true, true, true, true, true, true, true, true, true, true, true, true, true, true, true, true, true, true, false, false, false, false, false, false, false, false, false, false, false, false, false] rfl rfl (by kernel_rfl) (fun _ _ _ h => h) (Or.inr ⟨by rfl, rfl⟩) ?_ ?_
                    rotate_left
                    · simp only [Act.put, nA, nB, nC, i64_w, i32_w]
                      rfl
                    refine pure_ (i := 24) (N := some 105) (v := undef) (a' := ?_) #[true, true, true, true, true, true, true, true, true, true, true, true, true, true, true, true, true, true, true, true, true, true, true, true, true, false, false, false, false, false, false, false, false, false, false, false, false] rfl rfl (by kernel_rfl) (fun _ _ _ h => h) (Or.inr ⟨by rfl, rfl⟩) ?_ ?_
                    rotate_left
                    · simp only [Act.put, nA, nB, nC, i64_w, i32_w]
                      rfl
                    refine pure_ (i := 25) (N := some 106) (v := ?_) (a' := ?_) #[true, true, true, true, true, true, true, true, true, true, true, true, true, true, true, true, true, true, true, true, true, true, true, true, true, true, false, false, false, false, false, false, false, false, false, false, false] rfl rfl (by kernel_rfl) (fun _ _ _ h => h) (Or.inl ⟨by rfl, ?_⟩) ?_ ?_
                    rotate_left
                    · intro w'
                      go_simp
                      with_reducible rfl
                    rotate_left
                    · simp only [Act.put, nA, nB, nC, i64_w, i32_w]
                      rfl
                    refine pure_ (i := 26) (N := some 107) (v := ?_) (a' := ?_) #[true, true, true, true, true, true, true, true, true, true, true, true, true, true, true, true, true, true, true, true, true, true, true, true, true, true, true, false, false, false, false, false, false, false, false, false, false] rfl rfl (by kernel_rfl) (fun _ _ _ h => h) (Or.inl ⟨by rfl, ?_⟩) ?_ ?_
                    rotate_left
                    · intro w'
                      go_simp
                      with_reducible rfl
                    rotate_left
                    · simp only [Act.put, nA, nB, nC, i64_w, i32_w]
                      rfl
                    refine pure_ (i := 27) (N := some 108) (v := undef) (a' := ?_) #[true, true, true, true, true, true, true, true, true, true, true, true, true, true, true, true, true, true, true, true, true, true, true, true, true, true, true, true, false, false, false, false, false, false, false, false, false] rfl rfl (by kernel_rfl) (fun _ _ _ h => h) (Or.inr ⟨by rfl, rfl⟩) ?_ ?_
                    rotate_left
                    · simp only [Act.put, nA, nB, nC, i64_w, i32_w]
                      rfl
                    refine pure_ (i := 28) (N := some 109) (v := undef) (a' := ?_) #[true, true, true, true, true, true, true, true, true, true, true, true, true, true, true, true, true, true, true, true, true, true, true, true, true, true, true, true, true, false, false, false, false, false, false, false, false] rfl rfl (by kernel_rfl) (fun _ _ _ h => h) (Or.inr ⟨by rfl, rfl⟩) ?_ ?_
                    rotate_left
                    · simp only [Act.put, nA, nB, nC, i64_w, i32_w]
                      rfl
                    refine pure_ (i := 29) (N := some 110) (v := undef) (a' := ?_) #[true, true, true, true, true, true, true, true, true, true, true, true, true, true, true, true, true, true, true, true, true, true, true, true, true, true, true, true, true, true, false, false, false, false, false, false, false] rfl rfl (by kernel_rfl) (fun _ _ _ h => h) (Or.inr ⟨by rfl, rfl⟩) ?_ ?_
                    rotate_left
                    · simp only [Act.put, nA, nB, nC, i64_w, i32_w]
                      rfl
                    refine pure_ (i := 30) (N := some 111) (v := undef) (a' := ?_) #[true, true, true, true, true, true, true, true, true, true, true, true, true, true, true, true, true, true, true, true, true, true, true, true, true, true, true, true, true, true, true, false, false, false, false, false, false] rfl rfl (by kernel_rfl) (fun _ _ _ h => h) (Or.inr ⟨by rfl, rfl⟩) ?_ ?_
                    rotate_left
                    · simp only [Act.put, nA, nB, nC, i64_w, i32_w]
                      rfl
                    refine pure_ (i := 31) (N := some 112) (v := undef) (a' := ?_) #[true, true, true, true, true, true, true, true, true, true, true, true, true, true, true, true, true, true, true, true, true, true, true, true, true, true, true, true, true, true, true, true, false, false, false, false, false] rfl rfl (by kernel_rfl) (fun _ _ _ h => h) (Or.inr ⟨by rfl, rfl⟩) ?_ ?_
                    rotate_left
                    · simp only [Act.put, nA, nB, nC, i64_w, i32_w]
                      rfl
                    refine pure_ (i := 32) (N := some 113) (v := undef) (a' := ?_) #[true, true, true, true, true, true, true, true, true, true, true, true, true, true, true, true, true, true, true, true, true, true, true, true, true, true, true, true, true, true, true, true, true, false, false, false, false] rfl rfl (by kernel_rfl) (fun _ _ _ h => h) (Or.inr ⟨by rfl, rfl⟩) ?_ ?_
                    rotate_left
                    · simp only [Act.put, nA, nB, nC, i64_w, i32_w]
                      rfl
                    refine pure_ (i := 33) (N := some 114) (v := undef) (a' := ?_) #[true, true, true, true, true, true, true, true, true, true, true, true, true, true, true, true, true, true, true, true, true, true, true, true, true, true, true, true, true, true, true, true, true, true, false, false, false] rfl rfl (by kernel_rfl) (fun _ _ _ h => h) (Or.inr ⟨by rfl, rfl⟩) ?_ ?_
                    rotate_left
                    · simp only [Act.put, nA, nB, nC, i64_w, i32_w]
                      rfl
                    refine pure_ (i := 34) (N := some 115) (v := undef) (a' := ?_) #[true, true, true, true, true, true, true, true, true, true, true, true, true, true, true, true, true, true, true, true, true, true, true, true, true, true, true, true, true, true, true, true, true, true, true, false, false] rfl rfl (by kernel_rfl) (fun _ _ _ h => h) (Or.inr ⟨by rfl, rfl⟩) ?_ ?_
                    rotate_left
                    · simp only [Act.put, nA, nB, nC, i64_w, i32_w]
                      rfl
                    refine pure_ (i := 35) (N := some 116) (v := undef) (a' := ?_) #[true, true, true, true, true, true, true, true, true, true, true, true, true, true, true, true, true, true, true, true, true, true, true, true, true, true, true, true, true, true, true, true, true, true, true, true, false] rfl rfl (by kernel_rfl) (fun _ _ _ h => h) (Or.inr ⟨by rfl, rfl⟩) ?_ ?_
                    rotate_left
                    · simp only [Act.put, nA, nB, nC, i64_w, i32_w]
                      rfl
                    refine pure_ (i := 36) (N := some 117) (v := ?_) (a' := ?_) #[true, true, true, true, true, true, true, true, true, true, true, true, true, true, true, true, true, true, true, true, true, true, true, true, true, true, true, true, true, true, true, true, true, true, true, true, true] rfl rfl (by kernel_rfl) (fun _ _ _ h => h) (Or.inl ⟨by rfl, ?_⟩) ?_ ?_
                    rotate_left
                    · intro w'
                      go_simp
                      with_reducible rfl
                    rotate_left
                    · simp only [Act.put, nA, nB, nC, i64_w, i32_w]
                      rfl
                    try clear hHeld
                    refine done_ (by kernel_rfl) ?_
                    clear t3 t2 pk pi
                    go_wp2_with fail
                    go_roundw
                    case rel => exact ⟨k + 1, by omega, by go_num, HK.out.drew⟩
                    case measure => simp [intOf]; omega
                · have hke : k = R.calls.length := by omega
                  subst hke
                  have dk : decide ((R.calls.length : Int) < R.calls.length) = false := decide_eq_false (by omega)
                  clear hq
                  go_wp2_with fail
                  go_roundw
                  case rel => exact ⟨i + 1, by omega, by go_num, HK.out⟩
                  case measure => simp [intOf]; omega
            · have hil : i = R.calls.length := by omega
              subst hil
              have HQ := Lib.hid hq
              clear hq
              go_wp2_with fail
              go_ret
              exact ⟨rfl, HB6.out.trans ((HBL.out.trans (HQ.out.mono HBL.out.size)).mono HB6.out.size)⟩
    · skip
      have FW := fun W hx => Lib.hid (he_few (w := W) (vl := .slice al s.L.length cl) s hx a len cap)
      rw [decide_eq_false hok] at FW
      have NW := fun W hx => Lib.hid (he_start (w := W) (vl := .slice al s.L.length cl) s hx (by omega) n hst.1 (by omega) (by omega))
      go_enter Try.func10, Try.ntmps10
      go_wp2_with (first
        | (go_at_call 26; refine (he_up _).mono ?_; rintro e w2 ⟨rfl, hb2⟩; have hS2 := hS1.below hb2 hS1.lt; have HB2 := Lib.hid (HB1.out.trans (hb2.mono (by simp))); have c0 : w2.cell? ⟨w.heap.size, 0, none⟩ = some (.int .i64 s.kind) := hS2.cell 0; have c1 : w2.cell? ⟨w.heap.size, 1, none⟩ = some (.slice al s.L.length cl) := hS2.cell 1; have c2 : w2.cell? ⟨w.heap.size, 2, none⟩ = some (.bool s.isSealed) := hS2.cell 2; have c3 : w2.cell? ⟨w.heap.size, 3, none⟩ = some (.int .i64 s.to) := hS2.cell 3; clear hb2)
        | (go_at_call 27; refine (FW _ (HX.out.below HB2.out (Nat.le_refl _))).out.mono ?_; rintro e w3 ⟨rfl, hb3⟩; have hS3 := hS2.below hb3 hS2.lt; have HB3 := Lib.hid (HB2.out.trans (hb3.mono HB2.out.size)); clear c0 c1 c2 c3; have c0 : w3.cell? ⟨w.heap.size, 0, none⟩ = some (.int .i64 s.kind) := hS3.cell 0; have c1 : w3.cell? ⟨w.heap.size, 1, none⟩ = some (.slice al s.L.length cl) := hS3.cell 1; have c2 : w3.cell? ⟨w.heap.size, 2, none⟩ = some (.bool s.isSealed) := hS3.cell 2; have c3 : w3.cell? ⟨w.heap.size, 3, none⟩ = some (.int .i64 s.to) := hS3.cell 3; clear hb3)
        | (go_at_call 28; refine (NW _ (HX.out.below HB3.out (Nat.le_refl _))).out.mono ?_; rintro e w4 ⟨b, fp, rfl, hR4, hb4⟩; have HB4 := Lib.hid (HB3.out.trans (hb4.mono HB3.out.size)); have hb4s := hb4.size; clear hb4))
      go_ret
      exact ⟨rfl, HB4.out⟩
  · by_cases hok : s.L.length ≤ 300 ∧ len ≤ 1500
    · skip
      have FW := fun W hx => Lib.hid (he_few (w := W) (vl := .slice al s.L.length cl) s hx a len cap)
      rw [decide_eq_true hok] at FW
      have NW := fun W hx => Lib.hid (he_start_no (w := W) (vl := .slice al s.L.length cl) s hx n hst)
      go_enter Try.func10, Try.ntmps10
      go_wp2_with (first
        | (go_at_call 26; refine (he_up _).mono ?_; rintro e w2 ⟨rfl, hb2⟩; have hS2 := hS1.below hb2 hS1.lt; have HB2 := Lib.hid (HB1.out.trans (hb2.mono (by simp))); have c0 : w2.cell? ⟨w.heap.size, 0, none⟩ = some (.int .i64 s.kind) := hS2.cell 0; have c1 : w2.cell? ⟨w.heap.size, 1, none⟩ = some (.slice al s.L.length cl) := hS2.cell 1; have c2 : w2.cell? ⟨w.heap.size, 2, none⟩ = some (.bool s.isSealed) := hS2.cell 2; have c3 : w2.cell? ⟨w.heap.size, 3, none⟩ = some (.int .i64 s.to) := hS2.cell 3; clear hb2)
        | (go_at_call 27; refine (FW _ (HX.out.below HB2.out (Nat.le_refl _))).out.mono ?_; rintro e w3 ⟨rfl, hb3⟩; have hS3 := hS2.below hb3 hS2.lt; have HB3 := Lib.hid (HB2.out.trans (hb3.mono HB2.out.size)); clear c0 c1 c2 c3; have c0 : w3.cell? ⟨w.heap.size, 0, none⟩ = some (.int .i64 s.kind) := hS3.cell 0; have c1 : w3.cell? ⟨w.heap.size, 1, none⟩ = some (.slice al s.L.length cl) := hS3.cell 1; have c2 : w3.cell? ⟨w.heap.size, 2, none⟩ = some (.bool s.isSealed) := hS3.cell 2; have c3 : w3.cell? ⟨w.heap.size, 3, none⟩ = some (.int .i64 s.to) := hS3.cell 3; clear hb3)
        | (go_at_call 28; refine (NW _ (HX.out.below HB3.out (Nat.le_refl _))).out.mono ?_; rintro e w4 ⟨rfl, hb4⟩; have HB4 := Lib.hid (HB3.out.trans (hb4.mono HB3.out.size)); have hb4s := hb4.size; clear hb4))
      go_ret
      exact ⟨rfl, HB4.out⟩
    · skip
      have FW := fun W hx => Lib.hid (he_few (w := W) (vl := .slice al s.L.length cl) s hx a len cap)
      rw [decide_eq_false hok] at FW
      have NW := fun W hx => Lib.hid (he_start_no (w := W) (vl := .slice al s.L.length cl) s hx n hst)
      go_enter Try.func10, Try.ntmps10
      go_wp2_with (first
        | (go_at_call 26; refine (he_up _).mono ?_; rintro e w2 ⟨rfl, hb2⟩; have hS2 := hS1.below hb2 hS1.lt; have HB2 := Lib.hid (HB1.out.trans (hb2.mono (by simp))); have c0 : w2.cell? ⟨w.heap.size, 0, none⟩ = some (.int .i64 s.kind) := hS2.cell 0; have c1 : w2.cell? ⟨w.heap.size, 1, none⟩ = some (.slice al s.L.length cl) := hS2.cell 1; have c2 : w2.cell? ⟨w.heap.size, 2, none⟩ = some (.bool s.isSealed) := hS2.cell 2; have c3 : w2.cell? ⟨w.heap.size, 3, none⟩ = some (.int .i64 s.to) := hS2.cell 3; clear hb2)
        | (go_at_call 27; refine (FW _ (HX.out.below HB2.out (Nat.le_refl _))).out.mono ?_; rintro e w3 ⟨rfl, hb3⟩; have hS3 := hS2.below hb3 hS2.lt; have HB3 := Lib.hid (HB2.out.trans (hb3.mono HB2.out.size)); clear c0 c1 c2 c3; have c0 : w3.cell? ⟨w.heap.size, 0, none⟩ = some (.int .i64 s.kind) := hS3.cell 0; have c1 : w3.cell? ⟨w.heap.size, 1, none⟩ = some (.slice al s.L.length cl) := hS3.cell 1; have c2 : w3.cell? ⟨w.heap.size, 2, none⟩ = some (.bool s.isSealed) := hS3.cell 2; have c3 : w3.cell? ⟨w.heap.size, 3, none⟩ = some (.int .i64 s.to) := hS3.cell 3; clear hb3)
        | (go_at_call 28; refine (NW _ (HX.out.below HB3.out (Nat.le_refl _))).out.mono ?_; rintro e w4 ⟨rfl, hb4⟩; have HB4 := Lib.hid (HB3.out.trans (hb4.mono HB3.out.size)); have hb4s := hb4.size; clear hb4))
      go_ret
      exact ⟨rfl, HB4.out⟩
end Go.Proofs.Ytjfenjnnpikkdaa
/- Layer 15, HerlihyOrder: whatever the state, the processes and the script, the law returns true, and the arguments read as they did. No condition. -/
namespace Go.Proofs.Ytjfenjnnpikkdaa.herlihyOrder
open Go.ChangeShapes Go.WideShapes Go.ChangeAt Go.RowKit
open Go.ChangeMaps (open_string shut_string)
set_option maxRecDepth 100000

theorem own : ownKnob Try.prog.godebug = none := by kernel_rfl
theorem laidOut : laidOutB Try.prog = true := by kernel_rfl

set_option maxRecDepth 100000 in
theorem lifted (os : Os) (started : os.Started) (H : Type) (enc : TypeId × Value → H) :
    ReturnsInHanded {} Try.checked os 10 .any (Rows.herlihyOrderSpec.pre6 enc Try.prog Try.f10 Rows.herlihyOrderRow.domain false) (Rows.herlihyOrderSpec.post enc Try.prog Try.f10 false true false false) := by
  refine returnsInHanded_of_change (C := Try.checked) own started (by kernel_rfl) Try.func10
    (ChangeSpec.witness6 (enc := enc) (C := Try.checked) false ⟨#[], #[.agg #[.int .i64 0, .slice none 0 0, .bool false, .int .i64 0], .int .i64 0, .slice none 0 0], []⟩ 8 (by kernel_rfl) (by kernel_rfl) (by kernel_rfl) (by kernel_rfl)) ?_
  intro W base args ds gs before hval0 hW hcnd _
  have hval : ∀ (j : Nat) t v, Try.f10.params[j]? = some t → args[j]? = some v → Value.okWide Try.prog W .any base t v := hval0
  have hW' := hW
  obtain ⟨p, q, hA0, hV, rfl, hfz, hnd⟩ := hW
  have hA : DataW.TrodAll enc Try.prog W 0 (fun _ => true) true Try.f10.params.toList args.toList ds p := hA0
  rw [Try.params10] at hA hval
  obtain ⟨v0, vs0, d0, ds0, p0, q0, hargs, rfl, rfl, h0, r0⟩ := trodAll_cons hA
  obtain ⟨v1, vs1, d1, ds1, p1, q1, rfl, rfl, rfl, h1, r1⟩ := trodAll_cons r0
  obtain ⟨v2, vs2, d2, ds2, p2, q2, rfl, rfl, rfl, h2, r2⟩ := trodAll_cons r1
  obtain ⟨rfl, rfl, rfl⟩ := trodAll_nil r2
  obtain rfl : args = #[v0, v1, v2] := by cases args; simp_all
  obtain ⟨rfl, rfl⟩ := trodVars_none hV
  have k0 := h0
  have lt0 : ∀ x ∈ p0, x.block < W.heap.size := by obtain ⟨m, hm⟩ := k0; exact DataW.trod_lt m _ _ _ hm
  have k1 := h1
  have lt1 : ∀ x ∈ p1, x.block < W.heap.size := by obtain ⟨m, hm⟩ := k1; exact DataW.trod_lt m _ _ _ hm
  have k2 := h2
  have lt2 : ∀ x ∈ p2, x.block < W.heap.size := by obtain ⟨m, hm⟩ := k2; exact DataW.trod_lt m _ _ _ hm
  obtain ⟨s0, l0, rfl, w0⟩ := open_state (hval 0 24 v0 rfl rfl) h0
  obtain ⟨a1, rfl, rfl, rfl, w1⟩ := open_int Try.underlying3 (hval 1 3 v1 rfl rfl) h1
  obtain ⟨a2, len2, cap2, rfl⟩ := okWide_slice Try.underlying57 (hval 2 57 v2 rfl rfl)
  obtain ⟨hlc2, hcm2, f2, w2⟩ : len2 ≤ cap2 ∧ cap2 ≤ 9223372036854775807 ∧ ∃ f, IsOps W a2 len2 f 5 := by
    obtain ⟨fuel, hf⟩ := h2
    exact open_flat_structs Try.underlying57 Try.cells_evHe (by decide) (flat_evHe (enc := enc)) a2 len2 cap2 (by simpa [Value.cells] using hf)
  clear hA0 hval0
  refine (he_order (w := W) s0 w0 a1 a2 len2 cap2 f2 w2 hlc2 hcm2).mono fun e W' ⟨he, bel⟩ => ?_
  subst he
  exact ⟨_, rfl, _, _, _, [], _, [], hW', trodAll_mk1 (shut_bool Try.underlying4 _), (trodAll_cons_mk (Below.trod laidOut (by kernel_rfl) (of_decide_eq_true (by kernel_rfl)) k0 bel lt0) (trodAll_cons_mk (Below.trod laidOut (by kernel_rfl) (of_decide_eq_true (by kernel_rfl)) k1 bel lt1) (trodAll_cons_mk (Below.trod laidOut (by kernel_rfl) (of_decide_eq_true (by kernel_rfl)) k2 bel lt2) trodAll_mk0))), rfl, bel.frame _, fun h => by cases h⟩

theorem over : Rows.herlihyOrderRow.holds Try.pinned (OpenSpec.ofChange Rows.herlihyOrderSpec) :=
  OpenClaim.holds_of_wide 10 Try.f10 rfl rfl rfl rfl rfl rfl rfl ⟨rfl, rfl, rfl, rfl, rfl⟩ rfl rfl rfl rfl rfl (by kernel_rfl) Try.func10 (by kernel_rfl)
    (of_decide_eq_true (by kernel_rfl)) (by unfold Func.isWrapper; first | (rw [if_pos (by decide +kernel)]; kernel_rfl) | (rw [if_neg (by decide +kernel)]; exact ⟨rfl, rfl⟩))
    (fun os started H enc _ => lifted os started H enc)

theorem proved : Rows.HerlihyOrderSaid := over
#print axioms proved
end Go.Proofs.Ytjfenjnnpikkdaa.herlihyOrder
