/-
  The document's net: Double; Same; the law's few.
-/
import Derived.Test.YtjbmfmhibmnaiaaNt7
import Derived.Test.YtjbmfmhibmnaiaaPNetSentx1
namespace Go.Proofs.Ytjbmfmhibmnaiaa
set_option linter.unusedVariables false
set_option maxRecDepth 100000
set_option linter.unusedSimpArgs false
open Go.RowKit

set_option maxRecDepth 100000 in
set_option maxHeartbeats 3200000 in
theorem r_double {w : World} {b : Nat} {vl : Value} {L : List (Msg × Value)} (h : NRep w 45 b vl L) (i : Int) (hl : ∀ x ∈ L, x.1.b.length ≤ 1099511627776) (hL : L.length < 1073741824) :
    Calls Try.prog 30 #[.pointer (some ⟨b, 0, none⟩), .int .i64 i] w (DoubleP w 45 b vl L (atN (msgs L) i)) := by
  have hr : (atN (msgs L) i).1.b.length ≤ 1099511627776 := by
    unfold atN
    split
    · rename_i hin
      obtain ⟨q, rfl⟩ := Int.eq_ofNat_of_zero_le hin.1
      have hq : q < L.length := by have := hin.2; simp at this; omega
      show ((msgs L).getD q noMsg).b.length ≤ _
      rw [msgs_getD L hq]
      apply hl
      rw [List.getD_eq_getElem?_getD, List.getElem?_eq_getElem hq]; exact List.getElem_mem _
    · simp [noMsg]
  have HT := Lib.hid (r_at h i hL)
  have HH := Lib.hid h
  clear h hl
  generalize atN (msgs L) i = r at *
  generalize valN L i = vv at *
  obtain ⟨m, is⟩ := r
  simp only at hr
  cases is with
  | false =>
    go_enter Try.func30, Try.ntmps30
    go_wp2_with (go_at_call 24; refine HT.out.mono ?_; rintro e w3 ⟨rfl, ho, hb⟩; obtain ⟨a3, c3, rfl, -⟩ := id ho; have HBB := Lib.hid hb; clear ho hb)
    go_ret
    exact ⟨rfl, fun h => by simp at h, fun _ => NPost.same HH.out (HBB.out.alloc HBB.out.size _)⟩
  | true =>
    go_enter Try.func30, Try.ntmps30
    go_wp2_with (first | (go_at_call 22; refine HS.out.mono ?_; rintro e w5 ⟨rfl, v5, hf5, hN5⟩; have HN5 := Lib.hid hN5; have HF5 := Lib.hid hf5; clear hN5 hf5 q0 q1 q2 q3 q4) | (go_at_call 24; refine HT.out.mono ?_; rintro e w3 ⟨rfl, ho, hb⟩; obtain ⟨a3, c3, rfl, -⟩ := id ho; have hb4 := hb.alloc hb.size (.cells (msgB m (.slice a3 m.b.length c3)) 48); have hB4 := Blk.new w3 (msgB m (.slice a3 m.b.length c3)) 48; have q0 := hB4.cell 0; have q1 := hB4.cell 1; have q2 := hB4.cell 2; have q3 := hB4.cell 3; have q4 := hB4.cell 4; simp at q0 q1 q2 q3 q4; have hS := r_send (HH.out.below hb4) m (ho.below hb4 (Nat.le_refl _)) hr hL; have HS := Lib.hid hS; have HBB := Lib.hid hb4; clear ho hb hB4 hS hb4))
    go_ret
    exact ⟨rfl, fun _ => ⟨v5, fun k hk => Nat.le_trans HBB.out.size (HF5.out k hk), NPost.from HBB.out HN5.out⟩, fun h => by simp at h⟩

theorem rb_kd {w : World} {a : Option Addr} {c : Nat} {xs : List Int} (h : Rb w (.slice a xs.length c) xs) : xs.length ≤ c ∧ Go.Proofs.YtjbmfmhibmnaiaaW.PrintWords.Kd.C (Go.Proofs.YtjbmfmhibmnaiaaW.PrintWords.Kd.int .u8) w a xs.length xs := by
  obtain ⟨a', c', e, h1, h2, h3⟩ := h
  injection e with e1 e2 e3
  subst e1 e3
  refine ⟨h1, rfl, by omega, fun h0 => ?_⟩
  obtain ⟨b, o, e, hb, hc⟩ := h3 h0
  refine ⟨⟨b, o, none⟩, e, fun j p hj => ⟨[.int .u8 p], rfl, rfl, fun i u hu => ?_⟩⟩
  obtain ⟨hl, he⟩ := List.getElem?_eq_some_iff.1 hj
  rcases i with _ | i
  · have hu' : Value.int .u8 p = u := by simpa using hu
    subst hu'
    show w.cell? ((⟨b, o, none⟩ : Addr).add (j * 1 + 0)) = _
    rw [show (⟨b, o, none⟩ : Addr).add (j * 1 + 0) = ⟨b, o + j, none⟩ by unfold Addr.add; split <;> simp_all, hc j hl]
    simp [List.getD_eq_getElem?_getD, hj]
  · simp at hu
/-- The document's Same tells of two that are alike that they are. -/
theorem r_same {w : World} {va vb : Value} (a b : Msg) (ha : Rb w va a.b) (hb : Rb w vb b.b) :
    Calls Try.prog 25 #[msgA a va, msgA b vb] w fun e w' => ∃ r, e = .returned (.bool r) ∧ (a = b → r = true) ∧ Below w.heap.size w w' := by
  obtain ⟨aa, ca, rfl, -⟩ := id ha
  obtain ⟨ab, cb, rfl, -⟩ := id hb
  obtain ⟨h1, h2⟩ := rb_kd ha
  obtain ⟨h3, h4⟩ := rb_kd hb
  obtain ⟨r, hr, hre⟩ : ∃ r, PNetSent.ferrymanref20_Same.f a.f a.t a.k a.i a.b b.f b.t b.k b.i b.b = some r ∧ (a = b → r = true) := by
    unfold PNetSent.ferrymanref20_Same.f
    split
    · split
      · split
        · split
          · exact ⟨_, rfl, fun e => by rw [e]; simp⟩
          · rename_i h; exact ⟨_, rfl, fun e => absurd (by rw [e]) h⟩
        · rename_i h; exact ⟨_, rfl, fun e => absurd (by rw [e]) h⟩
      · rename_i h; exact ⟨_, rfl, fun e => absurd (by rw [e]) h⟩
    · rename_i h; exact ⟨_, rfl, fun e => absurd (by rw [e]) h⟩
  exact (PNetSent.ferrymanref20_Same.calls a.f a.t a.k a.i aa ca a.b b.f b.t b.k b.i ab cb b.b r w h2 h1 h4 h3 hr).mono fun e w' h => ⟨r, h.1, hre, h.2⟩

/-- A call that came in. -/
structure OpN where
  kind : Int
  i : Int
  m : Msg
def IsOpsN (w : World) (a : Option Addr) (len : Nat) (f : Nat → OpN) (vb : Nat → Value) : Prop :=
  0 < len → ∃ b o, a = some ⟨b, o, none⟩ ∧ b < w.heap.size ∧ ∀ i, i < len → w.cell? ⟨b, o + i * 7, none⟩ = some (.int .i64 (f i).kind) ∧ w.cell? ⟨b, o + i * 7 + 1, none⟩ = some (.int .i64 (f i).i) ∧ w.cell? ⟨b, o + i * 7 + 2, none⟩ = some (.int .i64 (f i).m.f) ∧
    w.cell? ⟨b, o + i * 7 + 3, none⟩ = some (.int .i64 (f i).m.t) ∧ w.cell? ⟨b, o + i * 7 + 4, none⟩ = some (.int .i64 (f i).m.k) ∧ w.cell? ⟨b, o + i * 7 + 5, none⟩ = some (.int .i64 (f i).m.i) ∧ w.cell? ⟨b, o + i * 7 + 6, none⟩ = some (vb i) ∧ Rb w (vb i) (f i).m.b
theorem IsOpsN.below {w w' : World} {a : Option Addr} {len : Nat} {f : Nat → OpN} {vb : Nat → Value} (h : IsOpsN w a len f vb) (hb : Below w.heap.size w w') : IsOpsN w' a len f vb := by
  intro h0
  obtain ⟨b, o, e, hlt, hc⟩ := h h0
  have k := Keeps.ofBelow (F := fun _ => False) hb
  refine ⟨b, o, e, Nat.lt_of_lt_of_le hlt hb.size, fun i hi => ?_⟩
  obtain ⟨c0, c1, c2, c3, c4, c5, c6, r⟩ := hc i hi
  exact ⟨k.cellSome (fun h => h) c0, k.cellSome (fun h => h) c1, k.cellSome (fun h => h) c2, k.cellSome (fun h => h) c3, k.cellSome (fun h => h) c4, k.cellSome (fun h => h) c5, k.cellSome (fun h => h) c6, r.below hb (Nat.le_refl _)⟩
def FewN (len : Nat) (f : Nat → OpN) : Prop := len ≤ 100 ∧ ∀ i, i < len → (f i).m.b.length ≤ 300

set_option maxRecDepth 100000 in
set_option maxHeartbeats 1600000 in
theorem n_few {w : World} {a : Option Addr} {len cap : Nat} {f : Nat → OpN} {vb : Nat → Value} (h : IsOpsN w a len f vb) (hl : len ≤ 9223372036854775807) :
    Calls Try.prog 19 #[.slice a len cap] w fun e w' => ∃ r : Bool, e = .returned (.bool r) ∧ (r = true → FewN len f) ∧ (FewN len f → r = true) ∧ Below w.heap.size w w' := by
  by_cases h100 : 100 < len
  · have d0 : decide (100 < len) = true := decide_eq_true h100
    have d1 : decide ((100 : Int) < len) = true := decide_eq_true (by omega)
    go_enter Try.func19, Try.ntmps19
    go_wp2_with fail
    go_ret
    exact ⟨false, rfl, (fun h => by cases h), (fun h => by have := h.1; omega), Below.refl _ _⟩
  · have d0 : decide (100 < len) = false := decide_eq_false h100
    have d1 : decide ((100 : Int) < len) = false := decide_eq_false (by omega)
    go_enter Try.func19, Try.ntmps19
    go_wp2_with fail
    go_loopw [3] (fun iv wr => ∃ k : Nat, k ≤ len ∧ iv = .int .i64 k ∧ Below w.heap.size w wr ∧ ∀ j, j < k → (f j).m.b.length ≤ 300) (fun iv _ => len - (intOf iv).toNat)
    case atStart => exact ⟨0, by omega, rfl, Below.refl _ _, fun j hj => by omega⟩
    case round =>
      obtain ⟨k, hk, rfl, hB, hall⟩ := hrel
      have HB := Lib.hid hB
      have HALL := Lib.hid hall
      by_cases hlt : k < len
      · obtain ⟨b, o, rfl, hlb, hc⟩ := h.below hB (by omega)
        obtain ⟨-, -, -, -, -, -, c6, hr⟩ := hc k hlt
        obtain ⟨av, cv, ev, -⟩ := id hr
        rw [ev] at c6
        have d2 : decide ((k : Int) < len) = true := decide_eq_true (by omega)
        have i1 : (0 : Int) ≤ (k : Int) := by omega
        have i2 : (k : Int) < (len : Int) := by omega
        have i64k : IntKind.i64.wrap ((k : Int) + 1) = (k : Int) + 1 := IntWalk.i64_in _ (by omega)
        clear hB hall hc hr ev
        by_cases h3 : 300 < (f k).m.b.length
        · have d3 : decide (300 < (f k).m.b.length) = true := decide_eq_true h3
          have d4 : decide ((300 : Int) < (f k).m.b.length) = true := decide_eq_true (by omega)
          go_wp2_with fail
          go_ret
          exact ⟨false, rfl, (fun h => by cases h), (fun h => by have := h.2 k hlt; omega), HB.out⟩
        · have d3 : decide (300 < (f k).m.b.length) = false := decide_eq_false h3
          have d4 : decide ((300 : Int) < (f k).m.b.length) = false := decide_eq_false (by omega)
          go_wp2_with fail
          go_roundw
          case rel =>
            refine ⟨k + 1, by omega, by go_num, HB.out, fun j hj => ?_⟩
            rcases Nat.lt_or_ge j k with g | g
            · exact HALL.out j g
            · have : j = k := by omega
              subst this; omega
          case measure => simp [intOf]; omega
      · have hkl : k = len := by omega
        subst hkl
        have d2 : decide ((k : Int) < k) = false := decide_eq_false (by omega)
        clear hB hall
        go_wp2_with fail
        go_ret
        exact ⟨true, rfl, fun _ => ⟨by omega, HALL.out⟩, fun _ => rfl, HB.out⟩
end Go.Proofs.Ytjbmfmhibmnaiaa
