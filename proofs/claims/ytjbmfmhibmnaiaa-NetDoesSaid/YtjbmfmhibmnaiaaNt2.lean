/-
  Package net: New, Len, Send.
-/
import Derived.Test.YtjbmfmhibmnaiaaNt1
import Derived.Test.YtjbmfmhibmnaiaaReg
namespace Go.Proofs.Ytjbmfmhibmnaiaa
set_option linter.unusedVariables false
set_option maxRecDepth 100000
set_option linter.unusedSimpArgs false
open Go.RowKit
open Go.Proofs.YtjbmfmhibmnaiaaW.PrintLast

/-- The blocks of a net. -/
def fpN (b : Nat) (vl : Value) (L : List (Msg × Value)) (k : Nat) : Prop := k = b ∨ vl.ownBlock = some k ∨ ∃ x ∈ L, x.2.ownBlock = some k
/-- A net in memory: T its type, b its block. -/
structure NRep (w : World) (T : TypeId) (b : Nat) (vl : Value) (L : List (Msg × Value)) : Prop where
  blk : Blk w b #[vl] T
  own : Own w 48 5 vl L.length (rowC L)
  bytes : ∀ x ∈ L, Own w 5 1 x.2 x.1.b.length (byt x.1.b)
section
variable {w w' : World} {T : TypeId} {b : Nat} {vl : Value} {L : List (Msg × Value)}
theorem NRep.lt (h : NRep w T b vl L) {k : Nat} (hk : fpN b vl L k) : k < w.heap.size := by
  rcases hk with rfl | hk | ⟨x, hx, hk⟩
  · exact h.blk.lt
  · exact own_lt h.own hk
  · exact own_lt (h.bytes x hx) hk
theorem NRep.keeps {F : Nat → Prop} (h : NRep w T b vl L) (k : Keeps F w w') (hF : ∀ q, fpN b vl L q → ¬ F q) : NRep w' T b vl L :=
  ⟨h.blk.keeps k (hF b (.inl rfl)), own_keeps h.own k (fun q hq => hF q (.inr (.inl hq))), fun x hx => own_keeps (h.bytes x hx) k (fun q hq => hF q (.inr (.inr ⟨x, hx, hq⟩)))⟩
theorem NRep.below (h : NRep w T b vl L) (hb : Below w.heap.size w w') : NRep w' T b vl L := h.keeps (Keeps.ofBelow (F := fun _ => False) hb) (fun _ _ h => h)
theorem NRep.isSl (h : NRep w T b vl L) : ∀ x ∈ L, IsSl x.2 := fun x hx => by
  obtain ⟨a, c, e⟩ := own_shape (h.bytes x hx)
  exact ⟨a, _, c, e⟩
theorem NRep.one (h : NRep w T b vl L) : ∀ u ∈ rowC L, u.oneCell' = true := rowC_one L h.isSl
end
/-- What a method leaves. -/
def NPost (w : World) (T : TypeId) (b : Nat) (vl : Value) (L : List (Msg × Value)) (L' : List (Msg × Value)) (w' : World) : Prop :=
  ∃ vl', NRep w' T b vl' L' ∧ Keeps (fun k => k = b ∨ vl.ownBlock = some k) w w' ∧ ∀ k, fpN b vl' L' k → fpN b vl L k ∨ w.heap.size ≤ k

set_option maxHeartbeats 800000 in
theorem n_new (w : World) : Calls Try.prog 20 #[] w fun e w' => ∃ b, e = .returned (.pointer (some ⟨b, 0, none⟩)) ∧ w.heap.size ≤ b ∧ NRep w' 62 b (.slice none 0 0) [] ∧ Below w.heap.size w w' := by
  have hN : NRep (w.alloc (.cells #[.slice none 0 0] 62)) 62 w.heap.size (.slice none 0 0) [] := ⟨Blk.new _ _ _, World.ownsRow_nil .., by simp⟩
  have HN := Lib.hid hN
  have HB := Lib.hid ((Below.refl w.heap.size w).alloc (Nat.le_refl _) (.cells #[.slice none 0 0] 62))
  clear hN
  go_enter Try.func20, Try.ntmps20
  go_wp2
  go_ret
  exact ⟨_, rfl, Nat.le_refl _, HN.out, HB.out⟩

set_option maxHeartbeats 800000 in
theorem n_len {w : World} {b : Nat} {vl : Value} {L : List (Msg × Value)} (h : NRep w 62 b vl L) :
    Calls Try.prog 31 #[.pointer (some ⟨b, 0, none⟩)] w fun e w' => e = .returned (.int .i64 L.length) ∧ w' = w := by
  have h0 : w.cell? ⟨b, 0, none⟩ = some vl := h.blk.cell 0
  obtain ⟨a, c, rfl⟩ := own_shape h.own
  clear h
  go_enter Try.func31, Try.ntmps31
  go_wp2
  go_ret
  exact ⟨rfl, rfl⟩

set_option maxRecDepth 100000 in
set_option maxHeartbeats 3200000 in
theorem n_send {w : World} {b : Nat} {vl v : Value} {L : List (Msg × Value)} (h : NRep w 62 b vl L) (m : Msg) (hv : Rb w v m.b) (hl : m.b.length ≤ 17592186044416) (hL : L.length < 1073741824) :
    Calls Try.prog 21 #[.pointer (some ⟨b, 0, none⟩), msgA m v] w fun e w' => e = .returned (.tuple #[]) ∧ ∃ v', (∀ k, v'.ownBlock = some k → w.heap.size ≤ k) ∧ NPost w 62 b vl L (L ++ [(m, v')]) w' := by
  obtain ⟨am, cm, rfl, -⟩ := id hv
  obtain ⟨al, cl, evl⟩ := own_shape h.own
  have hb1 : Below w.heap.size w (w.alloc (.cells #[.int .i64 m.f, .int .i64 m.t, .int .i64 m.k, .int .i64 m.i, .slice am m.b.length cm] 48)) := (Below.refl _ _).alloc (Nat.le_refl _) _
  have hB1 := Blk.new w #[.int .i64 m.f, .int .i64 m.t, .int .i64 m.k, .int .i64 m.i, .slice am m.b.length cm] 48
  have h1 := h.below hb1
  have hv1 := hv.below hb1 (Nat.le_refl _)
  have hbl := h.blk.lt
  have HH := Lib.hid h
  have HB1 := Lib.hid hb1
  have HVL := Lib.hid evl
  have hsz : (w.alloc (.cells #[.int .i64 m.f, .int .i64 m.t, .int .i64 m.k, .int .i64 m.i, .slice am m.b.length cm] 48)).heap.size = w.heap.size + 1 := by simp
  clear h hb1 hv evl
  go_enter Try.func21, Try.ntmps21
  go_wp2_with fail
  generalize (w.alloc (.cells #[.int .i64 m.f, .int .i64 m.t, .int .i64 m.k, .int .i64 m.i, .slice am m.b.length cm] 48)) = w1 at *
  have l0 : w1.cell? ⟨b, 0, none⟩ = some vl := h1.blk.cell 0
  rw [HVL.out] at l0
  have p0 : w1.cell? ⟨w.heap.size, 0, none⟩ = some (.int .i64 m.f) := hB1.cell 0
  have p1 : w1.cell? ⟨w.heap.size, 1, none⟩ = some (.int .i64 m.t) := hB1.cell 1
  have p2 : w1.cell? ⟨w.heap.size, 2, none⟩ = some (.int .i64 m.k) := hB1.cell 2
  have p3 : w1.cell? ⟨w.heap.size, 3, none⟩ = some (.int .i64 m.i) := hB1.cell 3
  have p4 : w1.cell? ⟨w.heap.size, 4, none⟩ = some (.slice am m.b.length cm) := hB1.cell 4
  have h1d : NRep w1.drew 62 b vl L := ⟨h1.blk.drew, h1.own, h1.bytes⟩
  refine start_ (n := 12) (S := fun w' => w'.cell? ⟨b, 0, none⟩ = some (.slice al L.length cl) ∧ w'.cell? ⟨w.heap.size, 0, none⟩ = some (.int .i64 m.f) ∧ w'.cell? ⟨w.heap.size, 1, none⟩ = some (.int .i64 m.t) ∧ w'.cell? ⟨w.heap.size, 2, none⟩ = some (.int .i64 m.k) ∧ w'.cell? ⟨w.heap.size, 3, none⟩ = some (.int .i64 m.i) ∧ w'.cell? ⟨w.heap.size, 4, none⟩ = some (.slice am m.b.length cm)) (ds := [8, 11]) #[false, false, false, false, false, false, false, false, false, false, false, false] (by kernel_rfl) rfl rfl ⟨l0, p0, p1, p2, p3, p4⟩ (fun hHeld => ?_)
  refine pure_ (i := 0) (N := some 4) (v := ?_) (a' := ?_) #[true, false, false, false, false, false, false, false, false, false, false, false] rfl rfl (by kernel_rfl) (fun _ _ _ h => h) (Or.inl ⟨by rfl, ?_⟩) ?_ ?_
  rotate_left
  · intro w'
    go_simp
    with_reducible rfl
  rotate_left
  · simp only [Act.put, List.setIfInBounds_toArray, List.set_cons_zero, List.set_cons_succ, i64_w, i32_w]
    rfl
  refine pure_ (i := 1) (N := some 5) (v := ?_) (a' := ?_) #[true, true, false, false, false, false, false, false, false, false, false, false] rfl rfl (by kernel_rfl) (fun _ _ _ h => h) (Or.inl ⟨by rfl, ?_⟩) ?_ ?_
  rotate_left
  · intro w'
    go_simp
    with_reducible rfl
  rotate_left
  · simp only [Act.put, List.setIfInBounds_toArray, List.set_cons_zero, List.set_cons_succ, i64_w, i32_w]
    rfl
  refine pure_ (i := 2) (N := some 6) (v := ?_) (a' := ?_) #[true, true, true, false, false, false, false, false, false, false, false, false] rfl rfl (by kernel_rfl) (fun _ _ _ h => h) (Or.inl ⟨by rfl, ?_⟩) ?_ ?_
  rotate_left
  · intro w'
    go_simp
    with_reducible rfl
  rotate_left
  · simp only [Act.put, List.setIfInBounds_toArray, List.set_cons_zero, List.set_cons_succ, i64_w, i32_w]
    rfl
  refine pure_ (i := 3) (N := some 7) (v := ?_) (a' := ?_) #[true, true, true, true, false, false, false, false, false, false, false, false] rfl rfl (by kernel_rfl) (fun _ _ _ h => h) (Or.inl ⟨by rfl, ?_⟩) ?_ ?_
  rotate_left
  · intro w'
    go_simp
    with_reducible rfl
  rotate_left
  · simp only [Act.put, List.setIfInBounds_toArray, List.set_cons_zero, List.set_cons_succ, i64_w, i32_w]
    rfl
  refine take_ (i := 4) (N := some 8) (v := ?_) (a' := ?_) #[true, true, true, true, true, false, false, false, false, false, false, false] rfl rfl (by kernel_rfl) (fun _ _ _ h => h) (Or.inl ⟨by rfl, ?_⟩) hHeld ?_ ?_
  rotate_left
  · rintro w' ⟨s0, s1, s2, s3, s4, s5⟩
    go_simp
    with_reducible rfl
  rotate_left
  · simp only [Act.put, List.setIfInBounds_toArray, List.set_cons_zero, List.set_cons_succ, i64_w, i32_w]
    rfl
  refine take_ (i := 5) (N := some 9) (v := ?_) (a' := ?_) #[true, true, true, true, true, true, false, false, false, false, false, false] rfl rfl (by kernel_rfl) (fun _ _ _ h => h) (Or.inl ⟨by rfl, ?_⟩) hHeld ?_ ?_
  rotate_left
  · rintro w' ⟨s0, s1, s2, s3, s4, s5⟩
    go_simp
    with_reducible rfl
  rotate_left
  · simp only [Act.put, List.setIfInBounds_toArray, List.set_cons_zero, List.set_cons_succ, i64_w, i32_w]
    rfl
  refine one_ (i := 6) (N := some 10) #[true, true, true, true, true, true, true, false, false, false, false, false] rfl rfl (by kernel_rfl) (by decide) (fun K hK => ?_)
  refine goes_ Try.func37 (by kernel_rfl) rfl #[.agg #[.int .i64 m.f, .int .i64 m.t, .int .i64 m.k, .int .i64 m.i, .slice am m.b.length cm]] (by rfl) rfl rfl (by simp only [List.map_toArray, List.map_cons, List.map_nil]; rfl) ?_
  with_reducible refine ((n_owned m (v := .slice am m.b.length cm) hv1.drew hl)).mono ?_
  rintro e w3 ⟨v', rfl, ho, hf, hb⟩
  refine ⟨_, rfl, ?_⟩
  obtain ⟨a3, c3, rfl⟩ := own_shape ho
  have h3 := h1d.below hb
  have K3 := Keeps.ofBelow (F := fun _ => False) hb
  try clear hHeld
  refine hK.out _ _ ⟨(K3.cellSome (fun h => h) l0), (K3.cellSome (fun h => h) p0), (K3.cellSome (fun h => h) p1), (K3.cellSome (fun h => h) p2), (K3.cellSome (fun h => h) p3), (K3.cellSome (fun h => h) p4)⟩ (fun hHeld => ?_)
  clear hK K
  refine norm_ (a' := ?_) ?_ ?_
  rotate_left
  · show Act.put _ (some 10) _ = _
    simp only [Act.put, List.setIfInBounds_toArray, List.set_cons_zero, List.set_cons_succ, i64_w, i32_w]
    rfl
  refine one_ (i := 7) (N := some 11) #[true, true, true, true, true, true, true, true, false, false, false, false] rfl rfl (by kernel_rfl) (by decide) (fun K hK => ?_)
  refine value_ (w1 := ?_) (v := ?_) (by rfl) rfl ?_ ?_
  rotate_left 2
  · go_simp
    constructor
    · rfl
    · rfl
  try clear hHeld
  refine hK.out _ _ ⟨Lib.cell?_alloc_some _ (K3.cellSome (fun h => h) l0), Lib.cell?_alloc_some _ (K3.cellSome (fun h => h) p0), Lib.cell?_alloc_some _ (K3.cellSome (fun h => h) p1), Lib.cell?_alloc_some _ (K3.cellSome (fun h => h) p2), Lib.cell?_alloc_some _ (K3.cellSome (fun h => h) p3), Lib.cell?_alloc_some _ (K3.cellSome (fun h => h) p4)⟩ (fun hHeld => ?_)
  clear hK K
  refine norm_ (a' := ?_) ?_ ?_
  rotate_left
  · show Act.put _ (some 11) _ = _
    simp only [Act.put, List.setIfInBounds_toArray, List.set_cons_zero, List.set_cons_succ, i64_w, i32_w]
    rfl
  refine last_ (i := 8) (N := some 12) #[true, true, true, true, true, true, true, true, true, false, false, false] rfl rfl (by kernel_rfl) (by decide) (fun K hK => ?_)
  refine append_own_ rfl rfl _ _ 43 rfl 48 (.agg #[.int .i64 0, .int .i64 0, .int .i64 0, .int .i64 0, .slice none 0 0]) 5 56 Try.underlying43 infoMsg rfl (by decide) (.slice al L.length cl) L.length (rowC L) rfl (by rw [← HVL.out]; exact h3.own.alloc _) ⟨w3.heap.size, 0, none⟩ 1 1 (msgC m (.slice a3 m.b.length c3)) rfl rfl (cells_new w3 (msgC m (.slice a3 m.b.length c3)) 48) (by intro u hu; simp [msgC] at hu; rcases hu with rfl | rfl | rfl | rfl | rfl <;> rfl) (by omega) (by decide) ?_
  intro vl' w6 hown hgrow hat
  obtain ⟨a6, c6, evl6⟩ := own_shape hown
  subst evl6
  rw [← HVL.out] at hgrow hat
  have hB6 : Blk w6 b _ _ := (hgrow.block b (by have := h3.blk.lt; simp; omega) (fun e => own_blk_ne h3.own h3.blk (by decide) e.symm)).trans (h3.blk.alloc _)
  have c60 := hB6.cell 0
  have f60 := hB6.frozen 0
  try clear hHeld
  refine hK.out _ _ ?_
  clear hK K
  refine norm_ (a' := ?_) ?_ ?_
  rotate_left
  · show Act.put _ (some 12) _ = _
    simp only [Act.put, List.setIfInBounds_toArray, List.set_cons_zero, List.set_cons_succ, i64_w, i32_w]
    rfl
  refine pure_ (i := 9) (N := some 13) (v := ?_) (a' := ?_) #[true, true, true, true, true, true, true, true, true, true, false, false] rfl rfl (by kernel_rfl) (fun _ _ _ h => h) (Or.inl ⟨by rfl, ?_⟩) ?_ ?_
  rotate_left
  · intro w'
    go_simp
    with_reducible rfl
  rotate_left
  · simp only [Act.put, List.setIfInBounds_toArray, List.set_cons_zero, List.set_cons_succ, i64_w, i32_w]
    rfl
  refine pure_ (i := 10) (N := some 14) (v := ?_) (a' := ?_) #[true, true, true, true, true, true, true, true, true, true, true, false] rfl rfl (by kernel_rfl) (fun _ _ _ h => h) (Or.inl ⟨by rfl, ?_⟩) ?_ ?_
  rotate_left
  · intro w'
    go_simp
    with_reducible rfl
  rotate_left
  · simp only [Act.put, List.setIfInBounds_toArray, List.set_cons_zero, List.set_cons_succ, i64_w, i32_w]
    rfl
  refine last_ (i := 11) (N := none) #[true, true, true, true, true, true, true, true, true, true, true, true] rfl rfl (by kernel_rfl) (by decide) (fun K hK => ?_)
  refine skip_ (w1 := ?_) (by rfl) rfl ?_ ?_
  rotate_left
  · go_simp
    rfl
  try clear hHeld
  refine hK.out _ _ ?_
  clear hK K
  try clear hHeld
  refine done_ (by kernel_rfl) ?_
  have hV3 : Hid (∀ x ∈ L ++ [(m, Value.slice a3 m.b.length c3)], Own w3 5 1 x.2 x.1.b.length (byt x.1.b)) := Lib.hid (by
    intro x hx
    rcases List.mem_append.1 hx with hx | hx
    · exact h3.bytes x hx
    · rw [List.mem_singleton.1 hx]; exact ho)
  have HOW := Lib.hid hown
  have HGR := Lib.hid hgrow
  have HAT := Lib.hid hat
  have H3 := Lib.hid h3
  have HF := Lib.hid hf
  have HBB := Lib.hid hb
  clear hown hgrow hat h3 ho hf hb h1 h1d l0 p0 p1 p2 p3 p4 c60 f60 K3
  go_wp2_with fail
  go_end0
  have s13 : w1.heap.size ≤ w3.heap.size := HBB.out.size
  have k1 : Keeps (fun k => k = b ∨ vl.ownBlock = some k) w w3 := (Keeps.ofBelow HB1.out).trans' ((Keeps.refl _ w1).drew.trans' (Keeps.ofBelow HBB.out))
  have k36 : Keeps (fun k => vl.ownBlock = some k) w3 w6 := ((Keeps.refl _ w3).alloc _).grown HGR.out (fun q e => .inl e)
  refine ⟨rfl, .slice a3 m.b.length c3, fun k hk => by have := HF.out k hk; simp at this; omega, .slice a6 (L.length + 1) c6, ⟨by simpa using hB6.set 0 (.slice a6 (L.length + 1) c6), ?_, fun x hx => ?_⟩, (k1.trans' (k36.mono fun k hk => .inr hk)).set b 0 (.inl (.inl rfl)) _, fun k hk => ?_⟩
  · have := own_set HOW.out hB6 (by decide) 0 (.slice a6 (L.length + 1) c6)
    rw [rowC_append]
    simpa [rowC] using this
  · exact own_set (own_keeps (hV3.out x hx) k36 (fun q hq e => own_type_ne (hV3.out x hx) H3.out.own (by decide) hq e)) hB6 (by decide) 0 _
  · rcases hk with hk | hk | ⟨x, hx, hk⟩
    · exact .inl (.inl hk)
    · rcases HAT.out with e | e
      · exact .inl (.inr (.inl (e ▸ hk)))
      · rw [e] at hk
        injection hk with hk
        simp at hk
        right; omega
    · rcases List.mem_append.1 hx with hx | hx
      · exact .inl (.inr (.inr ⟨x, hx, hk⟩))
      · rw [List.mem_singleton.1 hx] at hk
        have := HF.out k hk
        simp at this
        right; omega
end Go.Proofs.Ytjbmfmhibmnaiaa
