/-
  Package net: At.
-/
import Derived.Test.YtjbmfmhibmnaiaaNt2
namespace Go.Proofs.Ytjbmfmhibmnaiaa
set_option linter.unusedVariables false
set_option maxRecDepth 100000
set_option linter.unusedSimpArgs false
open Go.RowKit

abbrev set5 (w : World) (b : Nat) (m : Msg) (v : Value) : World := ((((w.setCell ⟨b, 0, none⟩ (.int .i64 m.f)).setCell ⟨b, 1, none⟩ (.int .i64 m.t)).setCell ⟨b, 2, none⟩ (.int .i64 m.k)).setCell ⟨b, 3, none⟩ (.int .i64 m.i)).setCell ⟨b, 4, none⟩ v
theorem own_set5 {w : World} {e T : TypeId} {s n b : Nat} {v u : Value} {xs : List Value} {cs : Array Value} (h : Own w e s v n xs) (hB : Blk w b cs T) (hne : e ≠ T) (m : Msg) : Own (set5 w b m u) e s v n xs :=
  own_set (own_set (own_set (own_set (own_set h hB hne _ _) (hB.set _ _) hne _ _) ((hB.set _ _).set _ _) hne _ _) (((hB.set _ _).set _ _).set _ _) hne _ _) ((((hB.set _ _).set _ _).set _ _).set _ _) hne _ _
theorem keeps_set5 {F : Nat → Prop} {a w : World} (k : Keeps F a w) (b : Nat) (h : F b ∨ a.heap.size ≤ b) (m : Msg) (u : Value) : Keeps F a (set5 w b m u) := ((((k.set b 0 h _).set b 1 h _).set b 2 h _).set b 3 h _).set b 4 h _
theorem blk_set5 {w : World} {b : Nat} {x0 x1 x2 x3 x4 : Value} {T : TypeId} (hB : Blk w b #[x0, x1, x2, x3, x4] T) (m : Msg) (v : Value) : Blk (set5 w b m v) b (msgB m v) T := by
  have := ((((hB.set 0 (.int .i64 m.f)).set 1 (.int .i64 m.t)).set 2 (.int .i64 m.k)).set 3 (.int .i64 m.i)).set 4 v
  simpa using this
abbrev msgs (L : List (Msg × Value)) : List Msg := L.map (·.1)
def atN (L : List Msg) (i : Int) : Msg × Bool := if 0 ≤ i ∧ i < L.length then (L.getD i.toNat noMsg, true) else (noMsg, false)
/-- What At leaves: a message whose bytes are one's own. -/
def AtP (w : World) (r : Msg × Bool) (e : Ending) (w' : World) : Prop :=
  ∃ v', e = .returned (.tuple #[msgA r.1 v', .bool r.2]) ∧ Own w' 5 1 v' r.1.b.length (byt r.1.b) ∧ (∀ k, v'.ownBlock = some k → w.heap.size ≤ k) ∧ Below w.heap.size w w'

/-- What is at a place of the row. -/
theorem NRep.view {w : World} {T : TypeId} {b : Nat} {vl : Value} {L : List (Msg × Value)} (h : NRep w T b vl L) {q : Nat} (hq : q < L.length) : ∃ (x : Msg × Value) (g cl : Nat) (ax : Option Addr) (cx : Nat), L.getD q (noMsg, .slice none 0 0) = x ∧ x ∈ L ∧ vl = .slice (some ⟨g, 0, none⟩) L.length cl ∧ x.2 = .slice ax x.1.b.length cx ∧ g < w.heap.size ∧
    (w.cell? ⟨g, q * 5, none⟩ = some (.int .i64 x.1.f) ∧ w.cell? ⟨g, q * 5 + 1, none⟩ = some (.int .i64 x.1.t) ∧ w.cell? ⟨g, q * 5 + 2, none⟩ = some (.int .i64 x.1.k) ∧ w.cell? ⟨g, q * 5 + 3, none⟩ = some (.int .i64 x.1.i) ∧ w.cell? ⟨g, q * 5 + 4, none⟩ = some (.slice ax x.1.b.length cx)) := by
  have hm : L.getD q (noMsg, .slice none 0 0) ∈ L := by
    rw [List.getD_eq_getElem?_getD, List.getElem?_eq_getElem hq]; exact List.getElem_mem _
  obtain ⟨g, cl, evl, _⟩ := own_open h.own (by omega)
  obtain ⟨ax, cx, evx⟩ := own_shape (h.bytes _ hm)
  have ho := h.own
  rw [evl] at ho
  have hc := fun j (hj : j < 5) => (World.ownsRow.cellAt ho (q * 5 + j) (by omega)).trans (rowC_at L q hq j hj)
  refine ⟨_, g, cl, ax, cx, rfl, hm, evl, evx, own_lt ho rfl, hc 0 (by omega), hc 1 (by omega), hc 2 (by omega), hc 3 (by omega), ?_⟩
  have := hc 4 (by omega)
  rw [this]
  show some _ = _
  rw [evx]
theorem msgs_getD (L : List (Msg × Value)) {q : Nat} (hq : q < L.length) : (msgs L).getD q noMsg = (L.getD q (noMsg, .slice none 0 0)).1 := by
  simp [msgs, List.getD_eq_getElem?_getD, List.getElem?_eq_getElem hq]

set_option maxRecDepth 100000 in
set_option maxHeartbeats 3200000 in
theorem n_at {w : World} {b : Nat} {vl : Value} {L : List (Msg × Value)} (h : NRep w 62 b vl L) (i : Int) (hl : ∀ x ∈ L, x.1.b.length ≤ 17592186044416) (hL : L.length < 1073741824) :
    Calls Try.prog 23 #[.pointer (some ⟨b, 0, none⟩), .int .i64 i] w (AtP w (atN (msgs L) i)) := by
  have hb1 : Below w.heap.size w (w.alloc (.cells #[.int .i64 0, .int .i64 0, .int .i64 0, .int .i64 0, .slice none 0 0] 48)) := (Below.refl _ _).alloc (Nat.le_refl _) _
  have hZ1 := Blk.new w #[.int .i64 0, .int .i64 0, .int .i64 0, .int .i64 0, .slice none 0 0] 48
  have h1 := h.below hb1
  have l0 : (w.alloc (.cells #[.int .i64 0, .int .i64 0, .int .i64 0, .int .i64 0, .slice none 0 0] 48)).cell? ⟨b, 0, none⟩ = some vl := h1.blk.cell 0
  have hsz : (w.alloc (.cells #[.int .i64 0, .int .i64 0, .int .i64 0, .int .i64 0, .slice none 0 0] 48)).heap.size = w.heap.size + 1 := by simp
  by_cases hin : 0 ≤ i ∧ i < L.length
  · obtain ⟨q, rfl⟩ := Int.eq_ofNat_of_zero_le hin.1
    have hq : q < L.length := by omega
    have e : atN (msgs L) (q : Int) = ((msgs L).getD q noMsg, true) := by unfold atN; rw [if_pos (by simpa using hq)]; rfl
    rw [e, msgs_getD L hq]
    obtain ⟨x, g, cl, ax, cx, hx, hxm, rfl, evx, hg, k0, k1, k2, k3, k4⟩ := h1.view hq
    rw [hx]
    have hO := n_owned (w := (w.alloc (.cells #[.int .i64 0, .int .i64 0, .int .i64 0, .int .i64 0, .slice none 0 0] 48))) x.1 (own_rb (h1.bytes x hxm)) (hl x hxm)
    rw [evx] at hO
    have i1 : (0 : Int) ≤ (q : Int) := by omega
    have i2 : (q : Int) < (L.length : Int) := by omega
    have d1 : decide ((q : Int) < 0) = false := decide_eq_false (by omega)
    have d2 : decide ((L.length : Int) ≤ (q : Int)) = false := decide_eq_false (by omega)
    have d3 : decide (L.length ≤ q) = false := decide_eq_false (by omega)
    have HO := Lib.hid hO
    have HB := Lib.hid hb1
    have HZ := Lib.hid hZ1
    clear hO hb1 hZ1 h h1 hin hl hx hxm e evx
    go_enter Try.func23, Try.ntmps23
    go_wp2_with (go_at_call 37; refine HO.out.mono ?_; rintro e w3 ⟨v', rfl, ho, hf, hb⟩; obtain ⟨a3, c3, rfl⟩ := own_shape ho; have hZ3 := HZ.out.below hb HZ.out.lt; have z0 := hZ3.cell 0; have z1 := hZ3.cell 1; have z2 := hZ3.cell 2; have z3 := hZ3.cell 3; have z4 := hZ3.cell 4; simp at z0 z1 z2 z3 z4; have fz0 := hZ3.frozen 0; have fz1 := hZ3.frozen 1; have fz2 := hZ3.frozen 2; have fz3 := hZ3.frozen 3; have fz4 := hZ3.frozen 4; have HOW := Lib.hid ho; have HF := Lib.hid hf; have HBB := Lib.hid hb; have HZ3 := Lib.hid hZ3; clear ho hf hb hZ3 l0 k0 k1 k2 k3 k4)
    refine bodyPost_ret (v := .tuple #[msgA x.1 (.slice a3 x.1.b.length c3), .bool true]) ?_ rfl ?_
    · simp [results, Try.results23, go_sem, z0, z1, z2, z3, z4]
    · have hb3 := HB.out.trans (HBB.out.mono (by simp))
      have k : Keeps (fun _ => False) w w3 := Keeps.ofBelow hb3
      exact ⟨_, rfl, own_set5 HOW.out HZ3.out (by decide) x.1, fun q hq => by have := HF.out q hq; omega, (keeps_set5 k w.heap.size (.inr (Nat.le_refl _)) x.1 _).below (fun _ h => h.elim) (Nat.le_refl _)⟩
  · have e : atN (msgs L) i = (noMsg, false) := by unfold atN; rw [if_neg (by simpa using hin)]
    rw [e]
    obtain ⟨al, cl, rfl⟩ := own_shape h.own
    have HB := Lib.hid hb1
    have HZ := Lib.hid hZ1
    have fin : AtP w (noMsg, false) (.returned (.tuple #[msgA noMsg (.slice none 0 0), .bool false])) (w.alloc (.cells #[.int .i64 0, .int .i64 0, .int .i64 0, .int .i64 0, .slice none 0 0] 48)) :=
      ⟨_, rfl, World.ownsRow_nil .., by simp [Value.ownBlock], hb1⟩
    have HF := Lib.hid fin
    clear fin hb1 hZ1 h h1 hl e
    by_cases h0 : i < 0
    · have d1 : decide (i < 0) = true := decide_eq_true h0
      go_enter Try.func23, Try.ntmps23
      go_wp2_with fail
      refine bodyPost_ret (v := .tuple #[msgA noMsg (.slice none 0 0), .bool false]) ?_ rfl ?_
      · simp [results, Try.results23, go_sem, noMsg]
      · exact HF.out
    · have d1 : decide (i < 0) = false := decide_eq_false h0
      obtain ⟨q, rfl⟩ := Int.eq_ofNat_of_zero_le (show 0 ≤ i by omega)
      have d2 : decide ((L.length : Int) ≤ (q : Int)) = true := decide_eq_true (by omega)
      have d3 : decide (L.length ≤ q) = true := decide_eq_true (by omega)
      go_enter Try.func23, Try.ntmps23
      go_wp2_with fail
      refine bodyPost_ret (v := .tuple #[msgA noMsg (.slice none 0 0), .bool false]) ?_ rfl ?_
      · simp [results, Try.results23, go_sem, noMsg]
      · exact HF.out
end Go.Proofs.Ytjbmfmhibmnaiaa
