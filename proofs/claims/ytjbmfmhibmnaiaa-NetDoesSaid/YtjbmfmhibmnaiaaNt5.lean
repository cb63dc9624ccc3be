/-
  Package net: Lose, Double.
-/
import Derived.Test.YtjbmfmhibmnaiaaNt4
namespace Go.Proofs.Ytjbmfmhibmnaiaa
set_option linter.unusedVariables false
set_option maxRecDepth 100000
set_option linter.unusedSimpArgs false
open Go.RowKit

theorem NPost.from {w w4 w' : World} {T : TypeId} {b : Nat} {vl : Value} {L L' : List (Msg × Value)} (hb : Below w.heap.size w w4) (h : NPost w4 T b vl L L' w') : NPost w T b vl L L' w' := by
  obtain ⟨vl', h1, h2, h3⟩ := h
  exact ⟨vl', h1, (Keeps.ofBelow hb).trans' h2, fun k hk => (h3 k hk).imp id (fun g => Nat.le_trans hb.size g)⟩
theorem NPost.alloc {w w' : World} {T : TypeId} {b : Nat} {vl : Value} {L L' : List (Msg × Value)} (h : NPost w T b vl L L' w') (o : Obj) : NPost w T b vl L L' (w'.alloc o) := by
  obtain ⟨vl', h1, h2, h3⟩ := h
  exact ⟨vl', h1.below ((Below.refl _ _).alloc (Nat.le_refl _) o), h2.alloc o, h3⟩

set_option maxRecDepth 100000 in
set_option maxHeartbeats 3200000 in
theorem n_lose {w : World} {b : Nat} {vl : Value} {L : List (Msg × Value)} (h : NRep w 62 b vl L) (i : Int) (hl : ∀ x ∈ L, x.1.b.length ≤ 17592186044416) (hL : L.length < 1073741824) :
    Calls Try.prog 28 #[.pointer (some ⟨b, 0, none⟩), .int .i64 i] w fun e w' => e = .returned (.bool (atN (msgs L) i).2) ∧ NPost w 62 b vl L (takeN L i) w' := by
  have HT := Lib.hid (n_take h i hl hL)
  clear h hl
  unfold TakeP at HT
  generalize atN (msgs L) i = r at *
  obtain ⟨m, is⟩ := r
  go_enter Try.func28, Try.ntmps28
  go_wp2_with (go_at_call 26; refine HT.out.mono ?_; rintro e w3 ⟨v', rfl, ho, hN⟩; obtain ⟨a3, c3, rfl⟩ := own_shape ho; have HN := Lib.hid hN; clear ho hN)
  go_ret
  exact ⟨rfl, HN.out.alloc _⟩

/-- What Double leaves. -/
def DoubleP (w : World) (T : TypeId) (b : Nat) (vl : Value) (L : List (Msg × Value)) (r : Msg × Bool) (e : Ending) (w' : World) : Prop :=
  e = .returned (.bool r.2) ∧ (r.2 = true → ∃ v', (∀ k, v'.ownBlock = some k → w.heap.size ≤ k) ∧ NPost w T b vl L (L ++ [(r.1, v')]) w') ∧ (r.2 = false → NPost w T b vl L L w')
set_option maxRecDepth 100000 in
set_option maxHeartbeats 3200000 in
theorem n_double {w : World} {b : Nat} {vl : Value} {L : List (Msg × Value)} (h : NRep w 62 b vl L) (i : Int) (hl : ∀ x ∈ L, x.1.b.length ≤ 17592186044416) (hL : L.length < 1073741824) :
    Calls Try.prog 29 #[.pointer (some ⟨b, 0, none⟩), .int .i64 i] w (DoubleP w 62 b vl L (atN (msgs L) i)) := by
  have hr : (atN (msgs L) i).1.b.length ≤ 17592186044416 := by
    unfold atN
    split
    · rename_i hin
      obtain ⟨q, rfl⟩ := Int.eq_ofNat_of_zero_le hin.1
      have hq : q < L.length := by have := hin.2; simp at this; omega
      show ((msgs L).getD q noMsg).b.length ≤ _
      rw [msgs_getD L hq]
      apply hl
      rw [List.getD_eq_getElem?_getD, List.getElem?_eq_getElem hq]; exact List.getElem_mem _
    · simp [noMsg]
  have HT := Lib.hid (n_at h i hl hL)
  have HH := Lib.hid h
  clear h hl
  generalize atN (msgs L) i = r at *
  obtain ⟨m, is⟩ := r
  simp only at hr
  cases is with
  | false =>
    go_enter Try.func29, Try.ntmps29
    go_wp2_with (go_at_call 23; refine HT.out.mono ?_; rintro e w3 ⟨v', rfl, ho, hf, hb⟩; obtain ⟨a3, c3, rfl⟩ := own_shape ho; have HBB := Lib.hid hb; clear ho hf hb)
    go_ret
    exact ⟨rfl, fun h => by simp at h, fun _ => NPost.same HH.out (HBB.out.alloc HBB.out.size _)⟩
  | true =>
    go_enter Try.func29, Try.ntmps29
    go_wp2_with (first | (go_at_call 21; refine HS.out.mono ?_; rintro e w5 ⟨rfl, v5, hf5, hN5⟩; have HN5 := Lib.hid hN5; have HF5 := Lib.hid hf5; clear hN5 hf5 q0 q1 q2 q3 q4) | (go_at_call 23; refine HT.out.mono ?_; rintro e w3 ⟨v', rfl, ho, hf, hb⟩; obtain ⟨a3, c3, rfl⟩ := own_shape ho; have hb4 := hb.alloc hb.size (.cells (msgB m (.slice a3 m.b.length c3)) 48); have hB4 := Blk.new w3 (msgB m (.slice a3 m.b.length c3)) 48; have q0 := hB4.cell 0; have q1 := hB4.cell 1; have q2 := hB4.cell 2; have q3 := hB4.cell 3; have q4 := hB4.cell 4; simp at q0 q1 q2 q3 q4; have hS := n_send (HH.out.below hb4) m ((own_rb ho).alloc (.cells (msgB m (.slice a3 m.b.length c3)) 48)) hr hL; have HS := Lib.hid hS; have HBB := Lib.hid hb4; clear ho hf hb hB4 hS hb4))
    go_ret
    exact ⟨rfl, fun _ => ⟨v5, fun k hk => Nat.le_trans HBB.out.size (HF5.out k hk), NPost.from HBB.out HN5.out⟩, fun h => by simp at h⟩
end Go.Proofs.Ytjbmfmhibmnaiaa
