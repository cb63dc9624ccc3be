/-
  FilesRoom in plain Lean: no more bytes than the room.
-/
import Derived.Test.YtpckjinlopmbcaaFsG
namespace Go.Proofs.Ytpckjinlopmbcaa
set_option linter.unusedVariables false
set_option maxRecDepth 100000
set_option linter.unusedSimpArgs false
/-- No two names have one file. -/
def InjD (l : Dir) : Prop := ∀ (n m : Int) (f : Nat), (n, f) ∈ l → (m, f) ∈ l → n = m
theorem used_ins (files : Nat → PFile) (x : Int × Nat) (l : Dir) : usedD files (insD x l) = (files x.2).b.length + usedD files l := by
  induction l with
  | nil => simp [insD, usedD]
  | cons a l ih =>
    unfold insD
    split
    · simp [usedD]
    · simp only [usedD, List.map_cons, List.sum_cons] at ih ⊢; omega
theorem used_rm_le (files : Nat → PFile) (l : Dir) (n : Int) : usedD files (rmD l n) ≤ usedD files l := by
  induction l with
  | nil => simp [rmD, usedD]
  | cons a l ih =>
    unfold rmD at ih ⊢
    rw [List.filter_cons]
    split
    · simp only [usedD, List.map_cons, List.sum_cons] at ih ⊢; omega
    · simp only [usedD, List.map_cons, List.sum_cons] at ih ⊢; omega
theorem rm_not {l : Dir} {n : Int} (h : ∀ y ∈ l, y.1 ≠ n) : rmD l n = l := by
  unfold rmD
  rw [List.filter_eq_self]
  intro y hy
  simp [h y hy]
theorem used_rm {files : Nat → PFile} {l : Dir} (hr : Ris l) {n : Int} {f : Nat} (h : (n, f) ∈ l) : usedD files l = (files f).b.length + usedD files (rmD l n) := by
  induction l with
  | nil => simp at h
  | cons a l ih =>
    have h1 := List.pairwise_cons.1 hr
    rcases List.mem_cons.1 h with e | hm
    · subst e
      have hne : rmD ((n, f) :: l) n = l := by
        unfold rmD
        rw [List.filter_cons]
        simp only [bne_self_eq_false, Bool.false_eq_true, if_false]
        exact rm_not (fun y hy => by have := h1.1 y hy; simp at this; omega)
      rw [hne]
      simp [usedD]
    · have hlt := h1.1 _ hm
      have hne : rmD (a :: l) n = a :: rmD l n := by
        unfold rmD
        rw [List.filter_cons, if_pos (by simp at hlt ⊢; omega)]
      rw [hne]
      have := ih h1.2 hm
      simp only [usedD, List.map_cons, List.sum_cons] at this ⊢
      omega
theorem used_congr {files files' : Nat → PFile} {l : Dir} (h : ∀ x ∈ l, (files' x.2).b.length = (files x.2).b.length) : usedD files' l = usedD files l := by
  unfold usedD
  congr 1
  exact List.map_congr_left h
theorem used_upd {files : Nat → PFile} {l : Dir} (hr : Ris l) (hi : InjD l) {n : Int} {f : Nat} (h : (n, f) ∈ l) (v : PFile) : usedD (updF files f v) l + (files f).b.length = usedD files l + v.b.length := by
  rw [used_rm hr h, used_rm (files := files) hr h, updF_same]
  have : usedD (updF files f v) (rmD l n) = usedD files (rmD l n) := used_congr (fun x hx => by
    obtain ⟨h1, h2⟩ := mem_rmD.1 hx
    rw [updF_ne _ _ (fun e => h2 (hi x.1 n f (by rw [← e]; exact h1) h))])
  omega
theorem InjD.rm {l : Dir} (h : InjD l) (n : Int) : InjD (rmD l n) := fun a b f ha hb => h a b f (mem_rmD.1 ha).1 (mem_rmD.1 hb).1
theorem InjD.put {l : Dir} (h : InjD l) (n : Int) (f : Nat) (hf : ∀ x ∈ l, x.2 ≠ f) : InjD (putD l n f) := by
  intro a b g ha hb
  rcases mem_putD.1 ha with ea | ⟨ha, _⟩ <;> rcases mem_putD.1 hb with eb | ⟨hb, _⟩
  · simp only [Prod.mk.injEq] at ea eb; omega
  · simp only [Prod.mk.injEq] at ea; exact absurd ea.2 (hf _ hb)
  · simp only [Prod.mk.injEq] at eb; exact absurd eb.2 (hf _ ha)
  · exact h a b g ha hb
/-- What FilesRoom keeps of a disk. -/
structure RmI (S : FS) (room : Int) : Prop where
  out : S.out = false
  armed : S.armed = false
  rm : S.room = room
  le : (S.used : Int) ≤ room
  inj : InjD S.now
theorem did_off {S : FS} (h : S.armed = false) : S.did = S := by unfold FS.did; rw [if_neg (by rw [h]; simp)]
section
variable {S : FS} {room : Int}
theorem room_zero (h : 0 ≤ room) : RmI (zeroF room) room := ⟨rfl, rfl, rfl, h, fun a b f ha => by simp [zeroF] at ha⟩
theorem room_mkF (I : FInv S) (h : RmI S room) (n : Int) : RmI (S.mkF n) room ∧ (S.mkF n).used = S.used ∧ FInv (S.mkF n) ∧ (n, (S.mkF n).fid n) ∈ (S.mkF n).now := by
  unfold FS.mkF
  by_cases ha : atD S.now n = none
  · rw [if_pos ha]
    have hu : (({ S with files := updF S.files S.many ⟨[], 0⟩, many := S.many + 1 } : FS).change (.put n S.many)).used = S.used := by
      show usedD (updF S.files S.many ⟨[], 0⟩) (putD S.now n S.many) = usedD S.files S.now
      unfold putD
      rw [used_ins, updF_same, rm_not (fun y hy e => atD_none ha (f := y.2) (by rw [← e]; exact hy))]
      have := used_congr (files := S.files) (files' := updF S.files S.many ⟨[], 0⟩) (l := S.now) (fun x hx => by rw [updF_ne _ _ (by have := I.lt x (.inl hx); omega)])
      simp only [List.length_nil]
      omega
    refine ⟨⟨h.out, h.armed, h.rm, by rw [hu]; exact h.le, h.inj.put n S.many (fun x hx => by have := I.lt x (.inl hx); omega)⟩, hu, ?_, ?_⟩
    · refine FInv.change (S := { S with files := updF S.files S.many ⟨[], 0⟩, many := S.many + 1 }) ⟨I.kept, I.now, fun x hx => Nat.lt_succ_of_lt (I.lt x hx), fun c hc => (I.wlt c hc).mono (Nat.le_succ _), fun f => ?_, I.eq⟩ _ (Nat.lt_succ_self _)
      show (updF S.files S.many ⟨[], 0⟩ f).kept ≤ (updF S.files S.many ⟨[], 0⟩ f).b.length
      by_cases e : f = S.many
      · rw [e, updF_same]; exact Nat.le_refl _
      · rw [updF_ne _ _ e]; exact I.le f
    · have e : atD (putD S.now n S.many) n = some S.many := (I.now.put n S.many).at_ (mem_putD.2 (.inl rfl))
      show (n, (atD (putD S.now n S.many) n).getD 0) ∈ putD S.now n S.many
      rw [e]; exact mem_putD.2 (.inl rfl)
  · rw [if_neg ha]
    refine ⟨h, rfl, I, ?_⟩
    obtain ⟨f, hf⟩ := Option.ne_none_iff_exists'.1 ha
    unfold FS.fid
    rw [hf]; exact atD_some hf
theorem room_append (I : FInv S) (h : RmI S room) (n : Int) (b : List Int) :
    RmI (S.append n b).1 room ∧ (((S.append n b).2 = 0 ∧ (S.append n b).1.used = S.used + b.length) ∨ ((S.append n b).2 = 10 ∧ (S.append n b).1.used = S.used ∧ room < S.used + b.length) ∨ ((S.append n b).2 = 1 ∧ (S.append n b).1.used = S.used)) := by
  unfold FS.append
  rw [if_neg (by rw [h.out]; simp)]
  by_cases hm : mayN n
  · rw [if_neg (fun x => x hm)]
    by_cases hr : S.room < S.used + b.length
    · rw [if_pos hr]
      exact ⟨h, .inr (.inl ⟨rfl, rfl, by rw [← h.rm]; exact hr⟩)⟩
    · rw [if_neg hr]
      obtain ⟨h1, h2, h3, h4⟩ := room_mkF I h n
      have hu : ((S.mkF n).setF ((S.mkF n).fid n) ⟨((S.mkF n).files ((S.mkF n).fid n)).b ++ b, ((S.mkF n).files ((S.mkF n).fid n)).kept⟩).used = S.used + b.length := by
        have := used_upd (files := (S.mkF n).files) h3.now h1.inj h4 ⟨((S.mkF n).files ((S.mkF n).fid n)).b ++ b, ((S.mkF n).files ((S.mkF n).fid n)).kept⟩
        simp only [List.length_append] at this
        have h2 : usedD (S.mkF n).files (S.mkF n).now = S.used := h2
        show usedD (updF _ _ _) (S.mkF n).now = _
        omega
      have e : (S.mkF n).add n b = (S.mkF n).setF ((S.mkF n).fid n) ⟨((S.mkF n).files ((S.mkF n).fid n)).b ++ b, ((S.mkF n).files ((S.mkF n).fid n)).kept⟩ := by
        unfold FS.add; exact did_off h1.armed
      rw [e]
      refine ⟨⟨h1.out, h1.armed, h1.rm, ?_, h1.inj⟩, .inl ⟨rfl, hu⟩⟩
      have := h.rm
      rw [hu]; omega
  · rw [if_pos hm]
    exact ⟨h, .inr (.inr ⟨rfl, rfl⟩)⟩
theorem room_rename (I : FInv S) (h : RmI S room) (n to : Int) : RmI (S.rename n to).1 room ∧ (S.rename n to).1.used ≤ S.used := by
  unfold FS.rename
  by_cases hw : S.why n = 0
  · rw [if_neg (fun x => x hw)]
    by_cases hm : mayN to
    · rw [if_neg (fun x => x hm)]
      by_cases hne : n ≠ to
      · rw [if_pos hne, did_off (show (S.change _).armed = false from h.armed)]
        have hin : (n, S.fid n) ∈ S.now := by
          unfold FS.why at hw
          unfold FS.fid
          cases ha : atD S.now n with
          | none => rw [ha] at hw; simp [h.out] at hw
          | some f => exact atD_some ha
        have hu : (S.change (.ren n (S.fid n) to)).used ≤ S.used := by
          show usedD S.files (putD (rmD S.now n) to (S.fid n)) ≤ usedD S.files S.now
          unfold putD
          rw [used_ins, used_rm (files := S.files) I.now hin]
          have := used_rm_le S.files (rmD S.now n) to
          show (S.files (S.fid n)).b.length + usedD S.files (rmD (rmD S.now n) to) ≤ _
          omega
        refine ⟨⟨h.out, h.armed, h.rm, by have := h.le; show ((S.change (.ren n (S.fid n) to)).used : Int) ≤ room; omega, ?_⟩, hu⟩
        refine (h.inj.rm n).put to (S.fid n) (fun x hx e => ?_)
        obtain ⟨h1, h2⟩ := mem_rmD.1 hx
        exact h2 (h.inj x.1 n (S.fid n) (by rw [← e]; exact h1) hin)
      · rw [if_neg hne, did_off h.armed]; exact ⟨h, Nat.le_refl _⟩
    · rw [if_pos hm]; exact ⟨h, Nat.le_refl _⟩
  · rw [if_pos hw]; exact ⟨h, Nat.le_refl _⟩
theorem room_remove (h : RmI S room) (n : Int) : RmI (S.remove n).1 room ∧ (S.remove n).1.used ≤ S.used := by
  unfold FS.remove
  by_cases hw : S.why n = 0
  · rw [if_pos hw, did_off (show (S.change _).armed = false from h.armed)]
    have hu : (S.change (.rem n)).used ≤ S.used := used_rm_le S.files S.now n
    exact ⟨⟨h.out, h.armed, h.rm, by have := h.le; show ((S.change (.rem n)).used : Int) ≤ room; omega, h.inj.rm n⟩, hu⟩
  · rw [if_neg hw]; exact ⟨h, Nat.le_refl _⟩
end
end Go.Proofs.Ytpckjinlopmbcaa
