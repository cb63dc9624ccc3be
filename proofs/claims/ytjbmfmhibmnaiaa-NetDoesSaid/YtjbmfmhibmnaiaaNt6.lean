/-
  The document's net: At, Send.
-/
import Derived.Test.YtjbmfmhibmnaiaaNt5
namespace Go.Proofs.Ytjbmfmhibmnaiaa
set_option linter.unusedVariables false
set_option maxRecDepth 100000
set_option linter.unusedSimpArgs false
open Go.RowKit
open Go.Proofs.YtjbmfmhibmnaiaaW.PrintLast

/-- What the document's At leaves: a message that reads. -/
def RAtP (w : World) (r : Msg × Bool) (v : Value) (e : Ending) (w' : World) : Prop :=
  e = .returned (.tuple #[msgA r.1 v, .bool r.2]) ∧ Rb w v r.1.b ∧ Below w.heap.size w w'
/-- The bytes' slice at a place. -/
def valN (L : List (Msg × Value)) (i : Int) : Value := if 0 ≤ i ∧ i < L.length then (L.getD i.toNat (noMsg, .slice none 0 0)).2 else .slice none 0 0

set_option maxRecDepth 100000 in
set_option maxHeartbeats 3200000 in
theorem r_at {w : World} {b : Nat} {vl : Value} {L : List (Msg × Value)} (h : NRep w 45 b vl L) (i : Int) (hL : L.length < 1073741824) :
    Calls Try.prog 24 #[.pointer (some ⟨b, 0, none⟩), .int .i64 i] w (RAtP w (atN (msgs L) i) (valN L i)) := by
  have hb1 : Below w.heap.size w (w.alloc (.cells #[.int .i64 0, .int .i64 0, .int .i64 0, .int .i64 0, .slice none 0 0] 48)) := (Below.refl _ _).alloc (Nat.le_refl _) _
  have hZ1 := Blk.new w #[.int .i64 0, .int .i64 0, .int .i64 0, .int .i64 0, .slice none 0 0] 48
  have h1 := h.below hb1
  have l0 : (w.alloc (.cells #[.int .i64 0, .int .i64 0, .int .i64 0, .int .i64 0, .slice none 0 0] 48)).cell? ⟨b, 0, none⟩ = some vl := h1.blk.cell 0
  by_cases hin : 0 ≤ i ∧ i < L.length
  · obtain ⟨q, rfl⟩ := Int.eq_ofNat_of_zero_le hin.1
    have hq : q < L.length := by omega
    have e : atN (msgs L) (q : Int) = ((msgs L).getD q noMsg, true) := by unfold atN; rw [if_pos (by simpa using hq)]; rfl
    have ev : valN L (q : Int) = (L.getD q (noMsg, .slice none 0 0)).2 := by unfold valN; rw [if_pos ⟨by omega, by omega⟩]; rfl
    rw [e, ev, msgs_getD L hq]
    obtain ⟨x, g, cl, ax, cx, hx, hxm, rfl, evx, hg, k0, k1, k2, k3, k4⟩ := h1.view hq
    rw [hx]
    have hR := own_rb (h.bytes x hxm)
    rw [evx] at hR ⊢
    have i1 : (0 : Int) ≤ (q : Int) := by omega
    have i2 : (q : Int) < (L.length : Int) := by omega
    have d1 : decide ((q : Int) < 0) = false := decide_eq_false (by omega)
    have d2 : decide ((L.length : Int) ≤ (q : Int)) = false := decide_eq_false (by omega)
    have d3 : decide (L.length ≤ q) = false := decide_eq_false (by omega)
    have hfin : RAtP w (x.1, true) (.slice ax x.1.b.length cx) (.returned (.tuple #[msgA x.1 (.slice ax x.1.b.length cx), .bool true])) (w.alloc (.cells (msgB x.1 (.slice ax x.1.b.length cx)) 48)) := ⟨rfl, hR, (Below.refl _ _).alloc (Nat.le_refl _) _⟩
    have HFIN := Lib.hid hfin
    have HB := Lib.hid hb1
    have HR := Lib.hid hR
    clear hR hb1 hZ1 h h1 hin hx hxm e ev evx hfin
    go_enter Try.func24, Try.ntmps24
    go_wp2_with fail
    refine bodyPost_ret (v := .tuple #[msgA x.1 (.slice ax x.1.b.length cx), .bool true]) ?_ rfl ?_
    · simp [results, Try.results24, go_sem]
    · exact HFIN.out
  · have e : atN (msgs L) i = (noMsg, false) := by unfold atN; rw [if_neg (by simpa using hin)]
    have ev : valN L i = .slice none 0 0 := by unfold valN; rw [if_neg hin]
    rw [e, ev]
    obtain ⟨al, cl, rfl⟩ := own_shape h.own
    have fin : RAtP w (noMsg, false) (.slice none 0 0) (.returned (.tuple #[msgA noMsg (.slice none 0 0), .bool false])) (w.alloc (.cells #[.int .i64 0, .int .i64 0, .int .i64 0, .int .i64 0, .slice none 0 0] 48)) := ⟨rfl, rb_nil _, hb1⟩
    have HF := Lib.hid fin
    clear fin hb1 hZ1 h h1 e ev
    by_cases h0 : i < 0
    · have d1 : decide (i < 0) = true := decide_eq_true h0
      go_enter Try.func24, Try.ntmps24
      go_wp2_with fail
      refine bodyPost_ret (v := .tuple #[msgA noMsg (.slice none 0 0), .bool false]) ?_ rfl ?_
      · simp [results, Try.results24, go_sem, noMsg]
      · exact HF.out
    · have d1 : decide (i < 0) = false := decide_eq_false h0
      obtain ⟨q, rfl⟩ := Int.eq_ofNat_of_zero_le (show 0 ≤ i by omega)
      have d2 : decide ((L.length : Int) ≤ (q : Int)) = true := decide_eq_true (by omega)
      have d3 : decide (L.length ≤ q) = true := decide_eq_true (by omega)
      go_enter Try.func24, Try.ntmps24
      go_wp2_with fail
      refine bodyPost_ret (v := .tuple #[msgA noMsg (.slice none 0 0), .bool false]) ?_ rfl ?_
      · simp [results, Try.results24, go_sem, noMsg]
      · exact HF.out

set_option maxRecDepth 100000 in
set_option maxHeartbeats 3200000 in
theorem r_send {w : World} {b : Nat} {vl v : Value} {L : List (Msg × Value)} (h : NRep w 45 b vl L) (m : Msg) (hv : Rb w v m.b) (hl : m.b.length ≤ 1099511627776) (hL : L.length < 1073741824) :
    Calls Try.prog 22 #[.pointer (some ⟨b, 0, none⟩), msgA m v] w fun e w' => e = .returned (.tuple #[]) ∧ ∃ v', (∀ k, v'.ownBlock = some k → w.heap.size ≤ k) ∧ NPost w 45 b vl L (L ++ [(m, v')]) w' := by
  obtain ⟨am, cm, rfl, -⟩ := id hv
  obtain ⟨al, cl, evl⟩ := own_shape h.own
  have hb1 : Below w.heap.size w (w.alloc (.cells #[.int .i64 m.f, .int .i64 m.t, .int .i64 m.k, .int .i64 m.i, .slice am m.b.length cm] 48)) := (Below.refl _ _).alloc (Nat.le_refl _) _
  have hB1 := Blk.new w #[.int .i64 m.f, .int .i64 m.t, .int .i64 m.k, .int .i64 m.i, .slice am m.b.length cm] 48
  have h1 := h.below hb1
  have hv1 := hv.below hb1 (Nat.le_refl _)
  have hbl := h.blk.lt
  have hsz : (w.alloc (.cells #[.int .i64 m.f, .int .i64 m.t, .int .i64 m.k, .int .i64 m.i, .slice am m.b.length cm] 48)).heap.size = w.heap.size + 1 := by simp
  have p4 : (w.alloc (.cells #[.int .i64 m.f, .int .i64 m.t, .int .i64 m.k, .int .i64 m.i, .slice am m.b.length cm] 48)).cell? ⟨w.heap.size, 4, none⟩ = some (.slice am m.b.length cm) := hB1.cell 4
  have HH := Lib.hid h
  have HB1 := Lib.hid hb1
  have HVL := Lib.hid evl
  have HV1 := Lib.hid hv1
  have HBX := Lib.hid hB1
  have H1 := Lib.hid h1
  clear h hb1 evl hv hv1 hB1 h1
  go_enter Try.func22, Try.ntmps22
  go_wp2_with (at_builtin; refine wpList_bcopy_nil rfl _ _ rfl rfl _ m.b rfl HV1.out hl ?_; intro v' w3 ho hg hf; obtain ⟨a3, c3, rfl⟩ := own_shape ho; have hb3 : Below w.heap.size w w3 := (HB1.out.trans (⟨hg.os, hg.tape, hg.output, hg.size, fun k hk => hg.block k (by omega) (by simp)⟩ : Below w.heap.size _ w3)); have hB3 := HBX.out.keeps (keeps_grown (Keeps.refl (fun _ => False) _) hg) (fun h => h); have c4 := hB3.cell 4; have f4 := hB3.frozen 4; simp at c4; have HO := Lib.hid ho; have HG := Lib.hid hg; have HF := Lib.hid hf; have HB3 := Lib.hid hB3; have HBL3 := Lib.hid hb3; clear ho hg hf hB3 hb3 p4)
  have hb0 : b ≠ w.heap.size := by omega
  have h3 : NRep w3 45 b vl L := H1.out.keeps (keeps_grown (Keeps.refl (fun _ => False) _) HG.out) (fun _ _ h => h)
  have h4 : NRep (w3.setCell ⟨w.heap.size, 4, none⟩ (.slice a3 m.b.length c3)) 45 b vl L := h3.keeps ((Keeps.refl (fun k => k = w.heap.size) w3).set w.heap.size 4 (.inl rfl) _) (fun k hk e => by subst e; have := HH.out.lt hk; omega)
  have hB4 := HB3.out.set 4 (.slice a3 m.b.length c3)
  have hO4 := own_set HO.out HB3.out (by decide) 4 (.slice a3 m.b.length c3)
  have k4 : Keeps (fun k => k = b ∨ vl.ownBlock = some k) w (w3.setCell ⟨w.heap.size, 4, none⟩ (.slice a3 m.b.length c3)) := (Keeps.ofBelow HBL3.out).set w.heap.size 4 (.inr (Nat.le_refl _)) _
  have s4 : w.heap.size + 1 ≤ (w3.setCell ⟨w.heap.size, 4, none⟩ (.slice a3 m.b.length c3)).heap.size := by have := HG.out.size; simp at this ⊢; omega
  have HF4 : Hid (∀ k, (Value.slice a3 m.b.length c3).ownBlock = some k → w.heap.size ≤ k) := Lib.hid (fun k hk => by have := HF.out k hk; simp at this; omega)
  clear h3 HO HG HF c4 f4
  generalize w3.setCell ⟨w.heap.size, 4, none⟩ (.slice a3 m.b.length c3) = w4 at *
  have l0 : w4.cell? ⟨b, 0, none⟩ = some vl := h4.blk.cell 0
  rw [HVL.out] at l0
  have p0 : w4.cell? ⟨w.heap.size, 0, none⟩ = some (.int .i64 m.f) := hB4.cell 0
  have p1 : w4.cell? ⟨w.heap.size, 1, none⟩ = some (.int .i64 m.t) := hB4.cell 1
  have p2 : w4.cell? ⟨w.heap.size, 2, none⟩ = some (.int .i64 m.k) := hB4.cell 2
  have p3 : w4.cell? ⟨w.heap.size, 3, none⟩ = some (.int .i64 m.i) := hB4.cell 3
  have p4 : w4.cell? ⟨w.heap.size, 4, none⟩ = some (.slice a3 m.b.length c3) := hB4.cell 4
  have HO4 := Lib.hid hO4
  have HK4 := Lib.hid k4
  clear hO4 k4
  refine start_ (n := 11) (S := fun w' => w'.cell? ⟨b, 0, none⟩ = some (.slice al L.length cl) ∧ w'.cell? ⟨w.heap.size, 0, none⟩ = some (.int .i64 m.f) ∧ w'.cell? ⟨w.heap.size, 1, none⟩ = some (.int .i64 m.t) ∧ w'.cell? ⟨w.heap.size, 2, none⟩ = some (.int .i64 m.k) ∧ w'.cell? ⟨w.heap.size, 3, none⟩ = some (.int .i64 m.i) ∧ w'.cell? ⟨w.heap.size, 4, none⟩ = some (.slice a3 m.b.length c3)) (ds := [7, 10]) #[false, false, false, false, false, false, false, false, false, false, false] (by kernel_rfl) rfl rfl ⟨l0, p0, p1, p2, p3, p4⟩ (fun hHeld => ?_)
  refine pure_ (i := 0) (N := some 8) (v := ?_) (a' := ?_) #[true, false, false, false, false, false, false, false, false, false, false] rfl rfl (by kernel_rfl) (fun _ _ _ h => h) (Or.inl ⟨by rfl, ?_⟩) ?_ ?_
  rotate_left
  · intro w'
    go_simp
    with_reducible rfl
  rotate_left
  · simp only [Act.put, List.setIfInBounds_toArray, List.set_cons_zero, List.set_cons_succ, i64_w, i32_w]
    rfl
  refine pure_ (i := 1) (N := some 9) (v := ?_) (a' := ?_) #[true, true, false, false, false, false, false, false, false, false, false] rfl rfl (by kernel_rfl) (fun _ _ _ h => h) (Or.inl ⟨by rfl, ?_⟩) ?_ ?_
  rotate_left
  · intro w'
    go_simp
    with_reducible rfl
  rotate_left
  · simp only [Act.put, List.setIfInBounds_toArray, List.set_cons_zero, List.set_cons_succ, i64_w, i32_w]
    rfl
  refine pure_ (i := 2) (N := some 10) (v := ?_) (a' := ?_) #[true, true, true, false, false, false, false, false, false, false, false] rfl rfl (by kernel_rfl) (fun _ _ _ h => h) (Or.inl ⟨by rfl, ?_⟩) ?_ ?_
  rotate_left
  · intro w'
    go_simp
    with_reducible rfl
  rotate_left
  · simp only [Act.put, List.setIfInBounds_toArray, List.set_cons_zero, List.set_cons_succ, i64_w, i32_w]
    rfl
  refine pure_ (i := 3) (N := some 11) (v := ?_) (a' := ?_) #[true, true, true, true, false, false, false, false, false, false, false] rfl rfl (by kernel_rfl) (fun _ _ _ h => h) (Or.inl ⟨by rfl, ?_⟩) ?_ ?_
  rotate_left
  · intro w'
    go_simp
    with_reducible rfl
  rotate_left
  · simp only [Act.put, List.setIfInBounds_toArray, List.set_cons_zero, List.set_cons_succ, i64_w, i32_w]
    rfl
  refine take_ (i := 4) (N := some 12) (v := ?_) (a' := ?_) #[true, true, true, true, true, false, false, false, false, false, false] rfl rfl (by kernel_rfl) (fun _ _ _ h => h) (Or.inl ⟨by rfl, ?_⟩) hHeld ?_ ?_
  rotate_left
  · rintro w' ⟨s0, s1, s2, s3, s4, s5⟩
    go_simp
    with_reducible rfl
  rotate_left
  · simp only [Act.put, List.setIfInBounds_toArray, List.set_cons_zero, List.set_cons_succ, i64_w, i32_w]
    rfl
  refine take_ (i := 5) (N := some 13) (v := ?_) (a' := ?_) #[true, true, true, true, true, true, false, false, false, false, false] rfl rfl (by kernel_rfl) (fun _ _ _ h => h) (Or.inl ⟨by rfl, ?_⟩) hHeld ?_ ?_
  rotate_left
  · rintro w' ⟨s0, s1, s2, s3, s4, s5⟩
    go_simp
    with_reducible rfl
  rotate_left
  · simp only [Act.put, List.setIfInBounds_toArray, List.set_cons_zero, List.set_cons_succ, i64_w, i32_w]
    rfl
  refine one_ (i := 6) (N := some 14) #[true, true, true, true, true, true, true, false, false, false, false] rfl rfl (by kernel_rfl) (by decide) (fun K hK => ?_)
  refine value_ (w1 := ?_) (v := ?_) (by rfl) rfl ?_ ?_
  rotate_left 2
  · go_simp
    constructor
    · rfl
    · rfl
  try clear hHeld
  refine hK.out _ _ ⟨Lib.cell?_alloc_some _ l0, Lib.cell?_alloc_some _ p0, Lib.cell?_alloc_some _ p1, Lib.cell?_alloc_some _ p2, Lib.cell?_alloc_some _ p3, Lib.cell?_alloc_some _ p4⟩ (fun hHeld => ?_)
  clear hK K
  refine norm_ (a' := ?_) ?_ ?_
  rotate_left
  · show Act.put _ (some 14) _ = _
    simp only [Act.put, List.setIfInBounds_toArray, List.set_cons_zero, List.set_cons_succ, i64_w, i32_w]
    rfl
  refine last_ (i := 7) (N := some 15) #[true, true, true, true, true, true, true, true, false, false, false] rfl rfl (by kernel_rfl) (by decide) (fun K hK => ?_)
  refine append_own_ rfl rfl _ _ 43 rfl 48 (.agg #[.int .i64 0, .int .i64 0, .int .i64 0, .int .i64 0, .slice none 0 0]) 5 56 Try.underlying43 infoMsg rfl (by decide) (.slice al L.length cl) L.length (rowC L) rfl (by rw [← HVL.out]; exact h4.own.alloc _) ⟨w4.heap.size, 0, none⟩ 1 1 (msgC m (.slice a3 m.b.length c3)) rfl rfl (cells_new w4 (msgC m (.slice a3 m.b.length c3)) 48) (by intro u hu; simp [msgC] at hu; rcases hu with rfl | rfl | rfl | rfl | rfl <;> rfl) (by omega) (by decide) ?_
  intro vl' w6 hown hgrow hat
  obtain ⟨a6, c6, evl6⟩ := own_shape hown
  subst evl6
  rw [← HVL.out] at hgrow hat
  have hB6 : Blk w6 b _ _ := (hgrow.block b (by have := h4.blk.lt; simp; omega) (fun e => own_blk_ne h4.own h4.blk (by decide) e.symm)).trans (h4.blk.alloc _)
  have c60 := hB6.cell 0
  have f60 := hB6.frozen 0
  try clear hHeld
  refine hK.out _ _ ?_
  clear hK K
  refine norm_ (a' := ?_) ?_ ?_
  rotate_left
  · show Act.put _ (some 15) _ = _
    simp only [Act.put, List.setIfInBounds_toArray, List.set_cons_zero, List.set_cons_succ, i64_w, i32_w]
    rfl
  refine pure_ (i := 8) (N := some 16) (v := ?_) (a' := ?_) #[true, true, true, true, true, true, true, true, true, false, false] rfl rfl (by kernel_rfl) (fun _ _ _ h => h) (Or.inl ⟨by rfl, ?_⟩) ?_ ?_
  rotate_left
  · intro w'
    go_simp
    with_reducible rfl
  rotate_left
  · simp only [Act.put, List.setIfInBounds_toArray, List.set_cons_zero, List.set_cons_succ, i64_w, i32_w]
    rfl
  refine pure_ (i := 9) (N := some 17) (v := ?_) (a' := ?_) #[true, true, true, true, true, true, true, true, true, true, false] rfl rfl (by kernel_rfl) (fun _ _ _ h => h) (Or.inl ⟨by rfl, ?_⟩) ?_ ?_
  rotate_left
  · intro w'
    go_simp
    with_reducible rfl
  rotate_left
  · simp only [Act.put, List.setIfInBounds_toArray, List.set_cons_zero, List.set_cons_succ, i64_w, i32_w]
    rfl
  refine last_ (i := 10) (N := none) #[true, true, true, true, true, true, true, true, true, true, true] rfl rfl (by kernel_rfl) (by decide) (fun K hK => ?_)
  refine skip_ (w1 := ?_) (by rfl) rfl ?_ ?_
  rotate_left
  · go_simp
    rfl
  try clear hHeld
  refine hK.out _ _ ?_
  clear hK K
  try clear hHeld
  refine done_ (by kernel_rfl) ?_
  have hV4 : Hid (∀ x ∈ L ++ [(m, Value.slice a3 m.b.length c3)], Own w4 5 1 x.2 x.1.b.length (byt x.1.b)) := Lib.hid (by
    intro x hx
    rcases List.mem_append.1 hx with hx | hx
    · exact h4.bytes x hx
    · rw [List.mem_singleton.1 hx]; exact HO4.out)
  have HOW := Lib.hid hown
  have HGR := Lib.hid hgrow
  have HAT := Lib.hid hat
  have H4 := Lib.hid h4
  clear hown hgrow hat h4 l0 p0 p1 p2 p3 p4 c60 f60
  go_wp2_with fail
  go_end0
  have k46 : Keeps (fun k => vl.ownBlock = some k) w4 w6 := ((Keeps.refl _ w4).alloc _).grown (grown_drew HGR.out) (fun q e => .inl e)
  refine ⟨rfl, .slice a3 m.b.length c3, HF4.out, .slice a6 (L.length + 1) c6, ⟨by simpa using hB6.set 0 (.slice a6 (L.length + 1) c6), ?_, fun x hx => ?_⟩, (HK4.out.trans' (k46.mono fun k hk => .inr hk)).set b 0 (.inl (.inl rfl)) _, fun k hk => ?_⟩
  · have := own_set HOW.out hB6 (by decide) 0 (.slice a6 (L.length + 1) c6)
    rw [rowC_append]
    simpa [rowC] using this
  · exact own_set (own_keeps (hV4.out x hx) k46 (fun q hq e => own_type_ne (hV4.out x hx) H4.out.own (by decide) hq e)) hB6 (by decide) 0 _
  · rcases hk with hk | hk | ⟨x, hx, hk⟩
    · exact .inl (.inl hk)
    · rcases HAT.out with e | e
      · exact .inl (.inr (.inl (e ▸ hk)))
      · rw [e] at hk
        injection hk with hk
        simp at hk
        right; omega
    · rcases List.mem_append.1 hx with hx | hx
      · exact .inl (.inr (.inr ⟨x, hx, hk⟩))
      · rw [List.mem_singleton.1 hx] at hk
        exact .inr (HF4.out k hk)
end Go.Proofs.Ytjbmfmhibmnaiaa
