/-
  Package files: Used.
-/
import Derived.Test.YtpckjinlopmbcaaFsM2
namespace Go.Proofs.Ytpckjinlopmbcaa
set_option linter.unusedVariables false
set_option maxRecDepth 100000
set_option linter.unusedSimpArgs false
open Go.RowKit Go.Maps
/-- What the entries still to come have. -/
def sumL (files : Nat → PFile) (left : Lit → Bool) (l : Dir) : Nat := ((l.filter fun x => left (.int .i64 x.1)).map fun x => (files x.2).b.length).sum
theorem sumL_congr (files : Nat → PFile) {left left' : Lit → Bool} {l : Dir} (h : ∀ x ∈ l, left' (.int .i64 x.1) = left (.int .i64 x.1)) : sumL files left' l = sumL files left l := by
  unfold sumL
  rw [List.filter_congr h]
theorem sumL_strike (files : Nat → PFile) (left : Lit → Bool) {l : Dir} (hr : Ris l) {n : Int} {f : Nat} (hm : (n, f) ∈ l) (hl : left (.int .i64 n) = true) : sumL files left l = (files f).b.length + sumL files (fun z => left z && !z.sameKey (.int .i64 n)) l := by
  induction l with
  | nil => simp at hm
  | cons a l ih =>
    have h1 := List.pairwise_cons.1 hr
    rcases List.mem_cons.1 hm with e | hm
    · subst e
      have hc : sumL files (fun z => left z && !z.sameKey (.int .i64 n)) l = sumL files left l := sumL_congr files (fun x hx => by
        have := h1.1 x hx
        have hne : ¬ x.1 = n := by simp at this; omega
        simp [Lit.sameKey, hne])
      have e1 : sumL files left ((n, f) :: l) = (files f).b.length + sumL files left l := by simp [sumL, hl]
      have e2 : sumL files (fun z => left z && !z.sameKey (.int .i64 n)) ((n, f) :: l) = sumL files (fun z => left z && !z.sameKey (.int .i64 n)) l := by simp [sumL, Lit.sameKey]
      rw [e1, e2, hc]
    · have := ih h1.2 hm
      have hne : ¬ a.1 = n := by have := h1.1 _ hm; simp at this; omega
      cases ha : left (.int .i64 a.1)
      · have e1 : sumL files left (a :: l) = sumL files left l := by simp [sumL, ha]
        have e2 : sumL files (fun z => left z && !z.sameKey (.int .i64 n)) (a :: l) = sumL files (fun z => left z && !z.sameKey (.int .i64 n)) l := by simp [sumL, ha]
        rw [e1, e2, this]
      · have e1 : sumL files left (a :: l) = (files a.2).b.length + sumL files left l := by simp [sumL, ha]
        have e2 : sumL files (fun z => left z && !z.sameKey (.int .i64 n)) (a :: l) = (files a.2).b.length + sumL files (fun z => left z && !z.sameKey (.int .i64 n)) l := by simp [sumL, ha, Lit.sameKey, hne]
        rw [e1, e2, this]; omega
theorem sumL_all (files : Nat → PFile) (fb : Nat → Nat) (l : Dir) : sumL files (Maps.has (dirD fb l)) l = usedD files l := by
  unfold sumL usedD
  rw [List.filter_eq_self.2]
  intro x hx
  rw [dirD_has]
  cases ha : atD l x.1 with
  | none => exact absurd hx (atD_none ha)
  | some f => rfl
theorem usedD_le (files : Nat → PFile) (k : Nat) (h : ∀ (f : Nat), (files f).b.length ≤ k) : ∀ (l : Dir), usedD files l ≤ l.length * k := by
  intro l
  induction l with
  | nil => simp [usedD]
  | cons a l ih =>
    have := h a.2
    show (files a.2).b.length + usedD files l ≤ (l.length + 1) * k
    rw [Nat.add_mul]; omega
/-- The step of a range over names. -/
theorem wpList_next_dir (w : World) {ops : Array Oper} {rest : List Oper} {o : Oper} {a : Act} {Q : Exit → Act → World → Prop} (hg : o.guard = none) (it : Operand) (hop : o.op = Op.next it false) (fb : Nat → Nat) (l : Dir) (b r n : Nat) (left : Lit → Bool) (cnt : Nat)
    (hit : a.eval it = .pointer (some ⟨r, 0, none⟩)) (h : w.ranges Try.prog 3 elF b r n (dirD fb l) left cnt)
    (hDone : cnt = 0 → (∀ kl, left kl = false) → wpList Try.prog ops Q rest (a.put o.dst (.tuple #[.bool false])) w)
    (hMore : ∀ (x : Int) (f : Nat) (w' : World) (cnt' : Nat), (x, f) ∈ l → left (.int .i64 x) = true → w'.ranges Try.prog 3 elF b r n (dirD fb l) (fun z => left z && !z.sameKey (.int .i64 x)) cnt' → cnt' < cnt →
      w.grownBy w' (some r) → w'.heap.size = w.heap.size → (Instr.entry (.pointer (some ⟨r, 0, none⟩))).run Try.prog w' = .ok (.tuple #[.int .i64 x, .pointer (some ⟨fb f, 0, none⟩)]) w' → wpList Try.prog ops Q rest (a.put o.dst (.tuple #[.bool true, .int .i64 x, .pointer (some ⟨fb f, 0, none⟩)])) w') :
    wpList Try.prog ops Q (o :: rest) a w := by
  refine wpList_next_ranges w hg it hop 3 keyI elF (fun (p : Int × Value) => .int .i64 p.1) id (fun key kl hkey => ?_) (fun v y _ => ⟨v, rfl⟩) b r n (dirD fb l) left cnt hit h hDone (fun p c kl y w' cnt' hkey hlk hv hat hrg hlt hgr hsz hen => ?_)
  · obtain ⟨x, rfl, _⟩ := Maps.keyOf_int_inv Try.underlying3 hkey
    exact ⟨(x, .bool true), rfl⟩
  · obtain ⟨x', ex, rfl, _⟩ := Maps.keyOf_int_inv Try.underlying3 hkey
    cases ex
    obtain ⟨z, rfl⟩ := elF_int hv
    cases ha : atD l p.1 with
    | none =>
      have h1 := hat (.lit (.int .i64 (z + 1)))
      rw [dirD_at, ha] at h1
      simp at h1
      omega
    | some f =>
      have h1 := hat (.lit (.int .i64 0))
      rw [dirD_at, ha] at h1
      have hz : z = (fb f : Int) := by simp at h1; exact h1.symm
      subst hz
      have hc : c = .pointer (some ⟨fb f, 0, none⟩) := by
        rcases elF_inv hv with ⟨e, _⟩ | ⟨q, e, e'⟩
        · omega
        · rw [show id c = c from rfl] at e'
          rw [e']
          have : q = fb f := by omega
          rw [this]
      subst hc
      exact hMore p.1 f w' cnt' (atD_some ha) hlk hrg hlt hgr hsz hen
section
variable {w : World} {base bd m : Nat} {fp : Nat → Prop} {R : FRef} {S : FS}
theorem DRep.used_le (h : DRep w base fp bd R m S) : S.used ≤ 300000000 := by
  have h1 := usedD_le S.files (300 * m) h.small.len S.now
  have h2 := h.small.nowl
  have h3 := h.small.top
  have h4 : S.now.length * (300 * m) ≤ 1000 * (300 * 1000) := Nat.mul_le_mul (by omega) (by omega)
  unfold FS.used
  omega
set_option maxHeartbeats 1600000 in
theorem fs_used (h : DRep w base fp bd R m S) : Calls Try.prog 18 #[.pointer (some ⟨bd, 0, none⟩)] w fun e w' => e = .returned (.int .i64 S.used) ∧ Below w.heap.size w w' := by
  have c2 : w.cell? ⟨bd, 2, none⟩ = some (.map (some R.bn)) := h.blk.cell 2
  have hown := h.parts.now
  have hris := h.inv.now
  have hu := h.used_le
  have hu0 : usedD S.files S.now ≤ 300000000 := hu
  have hbl := hown.lt
  have HF : Hid (∀ x ∈ S.now, Blk w (R.fb x.2) #[R.fv x.2, .int .i64 (S.files x.2).kept] 64 ∧ ∃ a c, R.fv x.2 = .slice a (S.files x.2).b.length c ∧ (S.files x.2).b.length ≤ c ∧ c ≤ maxLen) := Lib.hid fun x hx => ⟨h.parts.files.blk _ (h.inv.lt x (.inl hx)), own_shape2 (h.parts.files.own _ (h.inv.lt x (.inl hx)))⟩
  unfold FS.used
  generalize S.now = l at *
  generalize R.bn = b at *
  generalize S.files = files at *
  clear h hu
  go_enter Try.func18, Try.ntmps18
  go_wp2_with (first
    | (at_range; refine wpList_range_own _ rfl _ 57 rfl 3 62 keyI Try.underlying57 elF b l.length _ rfl hown ?_; intro w0 hrg0 hg0 hs0)
    | go_in)
  go_frame
  go_loopw [3] (fun av wr => ∃ (left : Lit → Bool) (cnt acc : Nat), wr.ranges Try.prog 3 elF b w.heap.size l.length (dirD R.fb l) left cnt ∧ av = .int .i64 acc ∧ acc + sumL files left l = usedD files l ∧ w.grownBy wr none)
    (fun _ wr => wr.rangeLeft b w.heap.size)
  case atStart =>
    exact ⟨_, _, 0, hrg0, rfl, by rw [sumL_all]; omega, hg0⟩
  case round =>
    obtain ⟨left, cnt, acc, hrg, rfl, hacc, hgw⟩ := hrel
    go_wp2_with (first
      | (at_next; refine wpList_next_dir _ rfl _ rfl R.fb l b w.heap.size l.length left cnt rfl hrg ?_ ?_)
      | go_in)
    · intro hc0 hl0
      go_wp2
      go_ret
      have e : sumL files left l = 0 := by
        unfold sumL
        rw [List.filter_eq_nil_iff.2 (fun x _ => by rw [hl0]; simp)]; rfl
      rw [e] at hacc
      exact ⟨by rw [← hacc]; rfl, (Below.refl _ w).grown hgw (Nat.le_refl _) (fun j hj => by cases hj)⟩
    · intro x f w1 cnt1 hm hlx hrg1 hlt hg1 hs1 hen
      have hstr := sumL_strike files left hris hm hlx
      obtain ⟨hB, af, cf, efv, hc1, hc2⟩ := HF.out _ hm
      simp only at hB efv hc1 hc2
      have gA : w.grownBy w1 none := hgw.andThen hg1 (fun j hj => .inl (by cases hj; exact Nat.le_refl _))
      have hB1 : Blk w1 (R.fb f) _ _ := (gA.block (R.fb f) hB.lt (by simp)).trans hB
      have c0 : w1.cell? ⟨R.fb f, 0, none⟩ = some (.slice af (files f).b.length cf) := by rw [hB1.cell 0, ← efv]; rfl
      have hsum : acc + (files f).b.length ≤ 300000000 := by omega
      have hw1 : IntKind.i64.wrap ((acc : Int) + ((files f).b.length : Int)) = ((acc + (files f).b.length : Nat) : Int) := by rw [IntWalk.i64_in _ (by omega)]; omega
      clear hB hB1 efv HF
      unfold maxLen at hc2
      go_wp2
      go_roundw
      case rel =>
        exact ⟨_, cnt1, acc + (files f).b.length, hrg1, rfl, by omega, gA⟩
      case measure => rw [hrg1.left_eq, hrg.left_eq]; exact hlt
end
end Go.Proofs.Ytpckjinlopmbcaa
