/-
  Package net: Take, Lose, Double.
-/
import Derived.Test.YtjbmfmhibmnaiaaNt3
namespace Go.Proofs.Ytjbmfmhibmnaiaa
set_option linter.unusedVariables false
set_option maxRecDepth 100000
set_option linter.unusedSimpArgs false
open Go.RowKit

def takeN {α : Type} (L : List α) (i : Int) : List α := if 0 ≤ i ∧ i < L.length then L.take i.toNat ++ L.drop (i.toNat + 1) else L
/-- What Take leaves. -/
def TakeP (w : World) (T : TypeId) (b : Nat) (vl : Value) (L : List (Msg × Value)) (i : Int) (e : Ending) (w' : World) : Prop :=
  ∃ v', e = .returned (.tuple #[msgA (atN (msgs L) i).1 v', .bool (atN (msgs L) i).2]) ∧ Own w' 5 1 v' (atN (msgs L) i).1.b.length (byt (atN (msgs L) i).1.b) ∧ NPost w T b vl L (takeN L i) w'
theorem NPost.same {w w' : World} {T : TypeId} {b : Nat} {vl : Value} {L : List (Msg × Value)} (h : NRep w T b vl L) (hb : Below w.heap.size w w') : NPost w T b vl L L w' := ⟨vl, h.below hb, (Keeps.ofBelow hb).mono (F := fun _ => False) (fun _ h => h.elim), fun _ h => .inl h⟩
theorem own_below {w w' : World} {e : TypeId} {s n : Nat} {v : Value} {xs : List Value} (h : Own w e s v n xs) (hb : Below w.heap.size w w') : Own w' e s v n xs := own_keeps h (Keeps.ofBelow (F := fun _ => False) hb) (fun _ _ h => h)

set_option maxRecDepth 100000 in
set_option maxHeartbeats 3200000 in
theorem n_take {w : World} {b : Nat} {vl : Value} {L : List (Msg × Value)} (h : NRep w 62 b vl L) (i : Int) (hl : ∀ x ∈ L, x.1.b.length ≤ 17592186044416) (hL : L.length < 1073741824) :
    Calls Try.prog 26 #[.pointer (some ⟨b, 0, none⟩), .int .i64 i] w (TakeP w 62 b vl L i) := by
  have hb1 : Below w.heap.size w (w.alloc (.cells #[.int .i64 0, .int .i64 0, .int .i64 0, .int .i64 0, .slice none 0 0] 48)) := (Below.refl _ _).alloc (Nat.le_refl _) _
  have hZ1 := Blk.new w #[.int .i64 0, .int .i64 0, .int .i64 0, .int .i64 0, .slice none 0 0] 48
  have h1 := h.below hb1
  have hsz : (w.alloc (.cells #[.int .i64 0, .int .i64 0, .int .i64 0, .int .i64 0, .slice none 0 0] 48)).heap.size = w.heap.size + 1 := by simp
  have hA := n_at h1 i hl hL
  have hbl := h.blk.lt
  by_cases hin : 0 ≤ i ∧ i < L.length
  · obtain ⟨q, rfl⟩ := Int.eq_ofNat_of_zero_le hin.1
    have hq : q < L.length := by omega
    have e : atN (msgs L) (q : Int) = ((msgs L).getD q noMsg, true) := by unfold atN; rw [if_pos (by simpa using hq)]; rfl
    have et : takeN L (q : Int) = L.take q ++ L.drop (q + 1) := by unfold takeN; rw [if_pos ⟨by omega, by omega⟩]; rfl
    unfold TakeP
    rw [e, et]
    rw [e] at hA
    generalize (msgs L).getD q noMsg = m at *
    obtain ⟨g, cl, evl, _, _⟩ := own_open h.own (by omega)
    have hgl : g < w.heap.size := own_lt h.own (by rw [evl]; rfl)
    have HVL := Lib.hid evl
    have HA := Lib.hid hA
    have HB := Lib.hid hb1
    have HZ := Lib.hid hZ1
    have H1 := Lib.hid h1
    have HH := Lib.hid h
    have i64k : IntKind.i64.wrap ((q : Int) + 1) = (q : Int) + 1 := IntWalk.i64_in _ (by omega)
    clear hA hb1 hZ1 h h1 hin hl e et evl
    go_enter Try.func26, Try.ntmps26
    go_wp2_with (first | (go_at_call 38; refine HD.out.mono ?_; rintro e w5 ⟨rfl, hO5, hK5⟩; have hBk5 := H3.out.blk.keeps hK5 (fun e => own_blk_ne H3.out.own H3.out.blk (by decide) (by rw [HVL.out, e]; rfl)); have n1 : w3.heap.size ≠ g := (by omega); have n2 : w.heap.size ≠ g := (by omega); have hB5 := HB4.out.keeps hK5 n1; have hZ5 := HZ4.out.keeps hK5 n2; have cb := hBk5.cell 0; have fb := hBk5.frozen 0; have q0 := hB5.cell 0; have q1 := hB5.cell 1; have q2 := hB5.cell 2; have q3 := hB5.cell 3; have q4 := hB5.cell 4; have z0 := hZ5.cell 0; have z1 := hZ5.cell 1; have z2 := hZ5.cell 2; have z3 := hZ5.cell 3; have z4 := hZ5.cell 4; simp at cb q0 q1 q2 q3 q4 z0 z1 z2 z3 z4; have fz0 := hZ5.frozen 0; have fz1 := hZ5.frozen 1; have fz2 := hZ5.frozen 2; have fz3 := hZ5.frozen 3; have fz4 := hZ5.frozen 4; have m1 : b ≠ w3.heap.size := (by omega); have m2 : w3.heap.size ≠ b := (by omega); have m3 : b ≠ w.heap.size := (by omega); have m4 : w.heap.size ≠ b := (by omega); have m5 : w3.heap.size ≠ w.heap.size := (by omega); have m6 : w.heap.size ≠ w3.heap.size := (by omega); have HO5 := Lib.hid hO5; have HK5 := Lib.hid hK5; have HBK5 := Lib.hid hBk5; have HZ5 := Lib.hid hZ5; clear hO5 hK5 hBk5 hB5 hZ5 l0) | (go_at_call 23; refine HA.out.mono ?_; rintro e w3 ⟨v', rfl, ho, hf, hb⟩; obtain ⟨a3, c3, rfl⟩ := own_shape ho; have h3 := (H1.out.below hb).below ((Below.refl _ w3).alloc (Nat.le_refl _) (.cells (msgB m (.slice a3 m.b.length c3)) 48)); have hB4 := Blk.new w3 (msgB m (.slice a3 m.b.length c3)) 48; have hZ4 := (HZ.out.below hb HZ.out.lt).alloc (.cells (msgB m (.slice a3 m.b.length c3)) 48); have l0 := h3.blk.cell 0; simp only [HVL.out] at l0; have ho4 := own_below ho ((Below.refl _ w3).alloc (Nat.le_refl _) (.cells (msgB m (.slice a3 m.b.length c3)) 48)); have hrow := h3.own; rw [HVL.out] at hrow; have hD := nt_delete hrow h3.one q (q + 1) (by omega) (by omega); have HD := Lib.hid hD; have HOW := Lib.hid ho4; have HF := Lib.hid hf; have HBB := Lib.hid hb; have hsz3 : w.heap.size + 1 ≤ w3.heap.size := (by have := hb.size; omega); have H3 := Lib.hid h3; have HB4 := Lib.hid hB4; have HZ4 := Lib.hid hZ4; clear ho hf hb h3 hrow hD hB4 hZ4 ho4))
    refine bodyPost_ret (v := .tuple #[msgA m (.slice a3 m.b.length c3), .bool true]) ?_ rfl ?_
    · simp [results, Try.results26, go_sem, z0, z1, z2, z3, z4]
    · obtain ⟨V, hV⟩ : ∃ V, V = Value.slice (some ⟨g, 0, none⟩) (q + (L.length - (q + 1))) cl := ⟨_, rfl⟩
      rw [← hV]
      have ho5 := HO5.out
      rw [← hV, rowC_take, rowC_drop, ← rowC_append] at ho5
      have hlen : (L.take q ++ L.drop (q + 1)).length = q + (L.length - (q + 1)) := by simp; omega
      rw [← hlen] at ho5
      have kS := keeps_set5 (Keeps.refl (fun k => k = w.heap.size) (w5.setCell ⟨b, 0, none⟩ V)) w.heap.size (.inl rfl) m (.slice a3 m.b.length c3)
      have kb := HB.out.trans (HBB.out.mono (by simp))
      have k3 : Keeps (fun k => k = b ∨ vl.ownBlock = some k) w w3 := Keeps.ofBelow kb
      have k5 := (k3.alloc (.cells (msgB m (.slice a3 m.b.length c3)) 48)).trans' (HK5.out.mono (G := fun k => k = b ∨ vl.ownBlock = some k) (fun k hk => .inr (by rw [HVL.out, hk]; rfl)))
      have kF := keeps_set5 (k5.set b 0 (.inl (.inl rfl)) V) w.heap.size (.inr (Nat.le_refl _)) m (.slice a3 m.b.length c3)
      have hsub : ∀ x ∈ L.take q ++ L.drop (q + 1), x ∈ L := fun x hx => by
        rcases List.mem_append.1 hx with hx | hx
        · exact List.mem_of_mem_take hx
        · exact List.mem_of_mem_drop hx
      have hby : ∀ (u : Value) (xs : List Int), Own (w3.alloc (.cells (msgB m (.slice a3 m.b.length c3)) 48)) 5 1 u xs.length (byt xs) → (∀ k, u.ownBlock = some k → k ≠ w.heap.size) → Own (set5 (w5.setCell ⟨b, 0, none⟩ V) w.heap.size m (.slice a3 m.b.length c3)) 5 1 u xs.length (byt xs) := fun u xs hu hne =>
        own_keeps (own_set (own_keeps hu HK5.out (fun k hk e => own_type_ne hu H3.out.own (by decide) hk (by rw [HVL.out, e]; rfl))) HBK5.out (by decide) 0 V) kS (fun k hk e => hne k hk e)
      refine ⟨_, rfl, hby _ _ HOW.out (fun k hk e => by have := HF.out k hk; omega), V, ⟨?_, ?_, fun x hx => hby _ _ (H3.out.bytes x (hsub x hx)) (fun k hk e => by have := own_lt (HH.out.bytes x (hsub x hx)) hk; omega)⟩, kF, fun k hk => ?_⟩
      · have := (HBK5.out.set 0 V).keeps kS m3
        simpa using this
      · exact own_keeps (own_set ho5 HBK5.out (by decide) 0 V) kS (fun k hk e => by rw [hV] at hk; simp [Value.ownBlock] at hk; omega)
      · rcases hk with hk | hk | ⟨x, hx, hk⟩
        · exact .inl (.inl hk)
        · exact .inl (.inr (.inl (by rw [HVL.out]; rw [hV] at hk; exact hk)))
        · exact .inl (.inr (.inr ⟨x, hsub x hx, hk⟩))
  · have e : atN (msgs L) i = (noMsg, false) := by unfold atN; rw [if_neg (by simpa using hin)]
    have et : takeN L i = L := by unfold takeN; rw [if_neg hin]
    unfold TakeP
    rw [e, et]
    rw [e] at hA
    have HA := Lib.hid hA
    have HB := Lib.hid hb1
    have HZ := Lib.hid hZ1
    have HH := Lib.hid h
    clear hA hb1 hZ1 h h1 hin hl e et
    go_enter Try.func26, Try.ntmps26
    go_wp2_with (go_at_call 23; refine HA.out.mono ?_; rintro e w3 ⟨v', rfl, ho, hf, hb⟩; obtain ⟨a3, c3, rfl⟩ := own_shape ho; have hZ4 := (HZ.out.below hb HZ.out.lt).alloc (.cells (msgB noMsg (.slice a3 noMsg.b.length c3)) 48); have z0 := hZ4.cell 0; have z1 := hZ4.cell 1; have z2 := hZ4.cell 2; have z3 := hZ4.cell 3; have z4 := hZ4.cell 4; simp at z0 z1 z2 z3 z4; have fz0 := hZ4.frozen 0; have fz1 := hZ4.frozen 1; have fz2 := hZ4.frozen 2; have fz3 := hZ4.frozen 3; have fz4 := hZ4.frozen 4; have ho4 := own_below ho ((Below.refl _ w3).alloc (Nat.le_refl _) (.cells (msgB noMsg (.slice a3 noMsg.b.length c3)) 48)); have HOW := Lib.hid ho4; have HF := Lib.hid hf; have HBB := Lib.hid hb; have hsz3 : w.heap.size + 1 ≤ w3.heap.size := (by have := hb.size; omega); have hB4 := Blk.new w3 (msgB noMsg (.slice a3 noMsg.b.length c3)) 48; have q0 := hB4.cell 0; have q1 := hB4.cell 1; have q2 := hB4.cell 2; have q3 := hB4.cell 3; have q4 := hB4.cell 4; simp at q0 q1 q2 q3 q4; clear ho hf hb ho4 hB4; have m5 : w3.heap.size ≠ w.heap.size := (by omega); have m6 : w.heap.size ≠ w3.heap.size := (by omega); have HZ4 := Lib.hid hZ4; clear hZ4)
    refine bodyPost_ret (v := .tuple #[msgA noMsg (.slice a3 noMsg.b.length c3), .bool false]) ?_ rfl ?_
    · simp [results, Try.results26, go_sem, z0, z1, z2, z3, z4]
    · have kb := HB.out.trans (HBB.out.mono (by simp))
      have k3 : Keeps (fun _ => False) w w3 := Keeps.ofBelow kb
      have kF := keeps_set5 (k3.alloc (.cells (msgB noMsg (.slice a3 noMsg.b.length c3)) 48)) w.heap.size (.inr (Nat.le_refl _)) noMsg (.slice a3 noMsg.b.length c3)
      have hbF := kF.below (B := w.heap.size) (fun _ h => h.elim) (Nat.le_refl _)
      exact ⟨_, rfl, own_set5 HOW.out HZ4.out (by decide) noMsg, NPost.same HH.out hbF⟩
end Go.Proofs.Ytjbmfmhibmnaiaa
