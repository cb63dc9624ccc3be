/-
  FilesKeep and FilesSwap in plain Lean.
-/
import Derived.Test.YtpckjinlopmbcaaFsG
namespace Go.Proofs.Ytpckjinlopmbcaa
set_option linter.unusedVariables false
set_option maxRecDepth 100000
set_option linter.unusedSimpArgs false
/-- A disk with one file, kept whole. -/
def KS (n : Int) (a : List Int) : FS := ⟨10000, updF (updF (updF (fun _ => ⟨[], 0⟩) 0 ⟨[], 0⟩) 0 ⟨a, 0⟩) 0 ⟨a, a.length⟩, 1, [(n, 0)], [(n, 0)], [], false, false, 0⟩
theorem ks_files (n : Int) (a : List Int) : (KS n a).files 0 = ⟨a, a.length⟩ := rfl
theorem ks3_1 {a : List Int} (ha : a.length ≤ 300) : ((zeroF 10000).append 3 a).2 = 0 ∧ (((zeroF 10000).append 3 a).1.sync 3).2 = 0 ∧ (((zeroF 10000).append 3 a).1.sync 3).1.syncDir = (KS 3 a, 0) := by
  have e : (zeroF 10000).append 3 a = ((zeroF 10000).mkF 3 |>.add 3 a, 0) := by
    unfold FS.append
    rw [if_neg (by decide), if_neg (by decide), if_neg (by show ¬ ((10000 : Int) < ((0 : Nat) : Int) + a.length); omega)]
  rw [e]
  exact ⟨rfl, rfl, rfl⟩
theorem ks5_1 {a : List Int} (ha : a.length ≤ 300) : ((zeroF 10000).append 5 a).2 = 0 ∧ (((zeroF 10000).append 5 a).1.sync 5).2 = 0 ∧ (((zeroF 10000).append 5 a).1.sync 5).1.syncDir = (KS 5 a, 0) := by
  have e : (zeroF 10000).append 5 a = ((zeroF 10000).mkF 5 |>.add 5 a, 0) := by
    unfold FS.append
    rw [if_neg (by decide), if_neg (by decide), if_neg (by show ¬ ((10000 : Int) < ((0 : Nat) : Int) + a.length); omega)]
  rw [e]
  exact ⟨rfl, rfl, rfl⟩
/-! ### behind a loss of power -/
theorem pick_zero (n : Int) : pickN n 0 = 0 := Nat.le_zero.1 (pickN_le n 0)
theorem trimF_full (keep : List Int) (i : Nat) (b : List Int) : trimF keep i ⟨b, b.length⟩ = ⟨b, b.length⟩ := by
  have e : keepN keep i ⟨b, b.length⟩ = b.length := by
    unfold keepN
    simp only [Nat.sub_self, pick_zero]
    split <;> rfl
  rw [trimF_eq, e, List.take_length]
theorem trimAll_full (keep : List Int) (l : Dir) {files : Nat → PFile} {f : Nat} {b : List Int} (h : files f = ⟨b, b.length⟩) (i : Nat) : trimAll keep l files i f = ⟨b, b.length⟩ := by
  induction i with
  | zero => exact h
  | succ i ih =>
    simp only [trimAll]
    cases hx : l[i]? with
    | none => exact ih
    | some x =>
      show updF (trimAll keep l files i) x.2 (trimF keep i (trimAll keep l files i x.2)) f = _
      by_cases e : f = x.2
      · subst e; rw [updF_same, ih, trimF_full]
      · rw [updF_ne _ _ e]; exact ih
theorem crash_read {S : FS} {names : Int} {keep : List Int} {n : Int} {f : Nat} (hb : atD (S.back names) n = some f) : (S.crash names keep).read n = ((trimAll keep (S.back names) S.files (S.back names).length f).b, 0) := by
  have hw : (S.crash names keep).why n = 0 := by
    unfold FS.why
    rw [if_neg (by rw [crash_out]; simp), if_neg (by show ¬ atD (S.back names) n = none; rw [hb]; simp)]
  unfold FS.read
  rw [if_pos hw]
  show ((trimAll keep (S.back names) S.files (S.back names).length ((atD (S.back names) n).getD 0)).b, 0) = _
  rw [hb]; rfl
theorem end_full {S : FS} {names : Int} {keep : List Int} {n : Int} {f : Nat} {b : List Int} (hb : atD (S.back names) n = some f) (hf : S.files f = ⟨b, b.length⟩) : (S.crash names keep).read n = (b, 0) := by
  rw [crash_read hb, trimAll_full keep _ hf]
theorem end_one {S : FS} {names : Int} {keep : List Int} {n : Int} (hk : S.kept = [(n, 0)]) (hw : S.waits = []) : (S.crash names keep).read n = ((S.files 0).b.take (keepN keep 0 (S.files 0)), 0) := by
  have hb : S.back names = [(n, 0)] := by unfold FS.back; rw [hw, hk]; simp
  have ha : atD (S.back names) n = some 0 := by rw [hb]; simp [atD]
  rw [crash_read ha, hb]
  rfl
/-- The power goes out so many changes later, or not. -/
theorem did_left {S : FS} (ha : S.armed = true) : S.did = { S with left := S.left - 1, out := decide (S.left - 1 ≤ 0), armed := !decide (S.left - 1 ≤ 0) } := by unfold FS.did; rw [if_pos ha]
theorem did_go {S : FS} (ha : S.armed = true) (hl : 2 ≤ S.left) (ho : S.out = false) : S.did = { S with left := S.left - 1 } := by
  rw [did_left ha]
  have : decide (S.left - 1 ≤ 0) = false := decide_eq_false (by omega)
  rw [this, ← ho]
  cases S
  simp_all
theorem did_stop {S : FS} (ha : S.armed = true) (hl : S.left = 1) : S.did.out = true ∧ S.did.kept = S.kept ∧ S.did.waits = S.waits ∧ S.did.files = S.files := by
  rw [did_left ha]
  exact ⟨decide_eq_true (by omega), rfl, rfl, rfl⟩
/-! ### FilesKeep -/
theorem keep_plain {a b : List Int} (ha : a.length ≤ 300) (hb : b.length ≤ 300) (cut names : Int) (keep : List Int) :
    ∃ x, ((((KS 3 a).cut cut).append 3 b).1.crash names keep).read 3 = (x, 0) ∧ a.length ≤ x.length ∧ x.length ≤ a.length + b.length ∧ x = (a ++ b).take x.length := by
  have key : ∀ (S : FS) (c : List Int), S.kept = [(3, 0)] → S.waits = [] → S.files 0 = ⟨c, a.length⟩ → a.length ≤ c.length → c.length ≤ a.length + b.length → c = (a ++ b).take c.length →
      ∃ x, (S.crash names keep).read 3 = (x, 0) ∧ a.length ≤ x.length ∧ x.length ≤ a.length + b.length ∧ x = (a ++ b).take x.length := by
    intro S c hk hw hf h1 h2 h3
    have hle := keepN_le keep 0 ⟨c, a.length⟩ h1
    have hge : a.length ≤ keepN keep 0 ⟨c, a.length⟩ := by unfold keepN; exact Nat.le_add_right _ _
    have hlen : (c.take (keepN keep 0 ⟨c, a.length⟩)).length = keepN keep 0 ⟨c, a.length⟩ := by rw [List.length_take]; exact Nat.min_eq_left hle
    refine ⟨c.take (keepN keep 0 ⟨c, a.length⟩), by rw [end_one hk hw, hf], by omega, by have hle : keepN keep 0 ⟨c, a.length⟩ ≤ c.length := hle; omega, ?_⟩
    rw [hlen, h3, List.take_take]
    have hle : keepN keep 0 ⟨c, a.length⟩ ≤ c.length := hle
    rw [← h3, Nat.min_eq_left hle]
  by_cases hc : cut < 1
  · have ho : ((KS 3 a).cut cut).out = true := by simp [FS.cut, hc]
    rw [out_append ho]
    exact key _ a rfl rfl rfl (Nat.le_refl _) (by omega) (by simp)
  · have ho : ((KS 3 a).cut cut).out = false := by simp [FS.cut, KS, hc]
    have e : ((KS 3 a).cut cut).append 3 b = ((((KS 3 a).cut cut).mkF 3).add 3 b, 0) := by
      unfold FS.append
      rw [if_neg (by rw [ho]; simp), if_neg (by decide), if_neg (by show ¬ ((10000 : Int) < ((a.length + 0 : Nat) : Int) + b.length); omega)]
    rw [e]
    have hd : ∀ S : FS, S.did.kept = S.kept ∧ S.did.waits = S.waits ∧ S.did.files = S.files := fun S => by unfold FS.did; split <;> exact ⟨rfl, rfl, rfl⟩
    obtain ⟨h1, h2, h3⟩ := hd ((((KS 3 a).cut cut)).setF 0 ⟨a ++ b, a.length⟩)
    have ea : (((KS 3 a).cut cut).mkF 3).add 3 b = ((((KS 3 a).cut cut)).setF 0 ⟨a ++ b, a.length⟩).did := rfl
    rw [ea]
    refine key _ (a ++ b) (h1.trans rfl) (h2.trans rfl) ?_ (by simp) (by simp) List.take_length.symm
    rw [h3]; rfl
/-! ### FilesSwap -/
section
variable (old new : List Int)
def swQ (l : Int) : FS := { KS 5 old with armed := true, left := l, out := false }
def swV1 (l : Int) : FS := ((swQ old l).more.change (.put 1 1)).setF 1 ⟨new, 0⟩
def swV2 (l : Int) : FS := (swV1 old new l).setF 1 ⟨new, new.length⟩
def swV3 (l : Int) : FS := (swV2 old new l).change (.ren 1 1 5)
def swV4 (l : Int) : FS := { swV3 old new l with kept := (swV3 old new l).now, waits := [] }
theorem sw_cut {cut : Int} (h : ¬ cut < 1) : (KS 5 old).cut cut = swQ old cut := by
  have h1 : decide (1 ≤ cut) = true := decide_eq_true (by omega)
  have h2 : decide (cut < 1) = false := decide_eq_false h
  unfold FS.cut swQ
  rw [h1, h2]; rfl
variable {old new}
theorem sw_1 (ho : old.length ≤ 300) (hn : new.length ≤ 300) (l : Int) : (swQ old l).append 1 new = ((swV1 old new l).did, 0) := by
  have e : (swQ old l).append 1 new = (((swQ old l).mkF 1).add 1 new, 0) := by
    unfold FS.append
    rw [if_neg (by show ¬ false = true; decide), if_neg (by decide), if_neg (by show ¬ ((10000 : Int) < ((old.length + 0 : Nat) : Int) + new.length); omega)]
  rw [e]; rfl
theorem sw_2 (l : Int) : (swV1 old new l).sync 1 = ((swV2 old new l).did, 0) := rfl
theorem sw_3 (l : Int) : (swV2 old new l).rename 1 5 = ((swV3 old new l).did, 0) := rfl
theorem sw_4 (l : Int) : (swV3 old new l).syncDir = ((swV4 old new l).did, 0) := rfl
theorem swap_plain (ho : old.length ≤ 300) (hn : new.length ≤ 300) (cut names : Int) (keep : List Int) :
    ∃ x, ((((((KS 5 old).cut cut).append 1 new).1.sync 1).1.rename 1 5).1.syncDir.1.crash names keep).read 5 = (x, 0) ∧
      (x = new ∨ (x = old ∧ ¬ ((((KS 5 old).cut cut).append 1 new).2 = 0 ∧ ((((KS 5 old).cut cut).append 1 new).1.sync 1).2 = 0 ∧ (((((KS 5 old).cut cut).append 1 new).1.sync 1).1.rename 1 5).2 = 0 ∧ (((((KS 5 old).cut cut).append 1 new).1.sync 1).1.rename 1 5).1.syncDir.2 = 0))) := by
  have hd : ∀ S : FS, S.did.kept = S.kept ∧ S.did.waits = S.waits ∧ S.did.files = S.files := fun S => by unfold FS.did; split <;> exact ⟨rfl, rfl, rfl⟩
  -- nothing waits, the elder one
  by_cases hc : cut < 1
  · have hou : ((KS 5 old).cut cut).out = true := by simp [FS.cut, hc]
    rw [out_append hou, out_sync hou, out_rename hou, out_syncDir hou]
    refine ⟨old, end_full (f := 0) ?_ rfl, .inr ⟨rfl, fun h => absurd h.1 (show ¬ (11 : Int) = 0 by decide)⟩⟩
    show atD ((([] : List Chg).take _).foldl Chg.app [(5, 0)]) 5 = some 0
    rw [List.take_nil]; rfl
  rw [sw_cut old hc, sw_1 ho hn]
  -- where the first change may be kept, or not
  have first : ∀ S : FS, S.kept = [(5, 0)] → S.waits = [.put 1 1] → S.files 0 = ⟨old, old.length⟩ → (S.crash names keep).read 5 = (old, 0) := fun S h1 h2 h3 => by
    refine end_full (f := 0) ?_ h3
    unfold FS.back
    rw [h1, h2]
    have hp := pickN_le names ([Chg.put 1 1] : List Chg).length
    simp only [List.length_cons, List.length_nil] at hp ⊢
    rcases (by omega : pickN names (0 + 1) = 0 ∨ pickN names (0 + 1) = 1) with e | e <;> rw [e] <;> rfl
  by_cases h1 : cut = 1
  · obtain ⟨q1, q2, q3, q4⟩ := did_stop (S := swV1 old new cut) rfl h1
    rw [out_sync q1, out_rename q1, out_syncDir q1]
    exact ⟨old, first _ (q2.trans rfl) (q3.trans rfl) (by rw [q4]; rfl), .inr ⟨rfl, fun h => absurd h.2.1 (show ¬ (11 : Int) = 0 by decide)⟩⟩
  have e1 : (swV1 old new cut).did = swV1 old new (cut - 1) := did_go (S := swV1 old new cut) rfl (show 2 ≤ cut by omega) rfl
  rw [e1, sw_2]
  by_cases h2 : cut = 2
  · obtain ⟨q1, q2, q3, q4⟩ := did_stop (S := swV2 old new (cut - 1)) rfl (show cut - 1 = 1 by omega)
    rw [out_rename q1, out_syncDir q1]
    exact ⟨old, first _ (q2.trans rfl) (q3.trans rfl) (by rw [q4]; rfl), .inr ⟨rfl, fun h => absurd h.2.2.1 (show ¬ (11 : Int) = 0 by decide)⟩⟩
  have e2 : (swV2 old new (cut - 1)).did = swV2 old new (cut - 1 - 1) := did_go (S := swV2 old new (cut - 1)) rfl (show 2 ≤ cut - 1 by omega) rfl
  simp only
  rw [e2, sw_3]
  by_cases h3 : cut = 3
  · obtain ⟨q1, q2, q3, q4⟩ := did_stop (S := swV3 old new (cut - 1 - 1)) rfl (show cut - 1 - 1 = 1 by omega)
    rw [out_syncDir q1]
    have f0 : (swV3 old new (cut - 1 - 1)).did.files 0 = ⟨old, old.length⟩ := by rw [q4]; rfl
    have f1 : (swV3 old new (cut - 1 - 1)).did.files 1 = ⟨new, new.length⟩ := by rw [q4]; rfl
    have hk : (swV3 old new (cut - 1 - 1)).did.kept = [(5, 0)] := q2.trans rfl
    have hw : (swV3 old new (cut - 1 - 1)).did.waits = [.put 1 1, .ren 1 1 5] := q3.trans rfl
    generalize (swV3 old new (cut - 1 - 1)).did = S at *
    have hp := pickN_le names ([Chg.put 1 1, .ren 1 1 5] : List Chg).length
    have hb : S.back names = ([Chg.put 1 1, .ren 1 1 5].take (pickN names ([Chg.put 1 1, .ren 1 1 5] : List Chg).length)).foldl Chg.app [(5, 0)] := by unfold FS.back; rw [hk, hw]
    simp only [List.length_cons, List.length_nil] at hp hb
    rcases (by omega : pickN names (0 + 1 + 1) = 0 ∨ pickN names (0 + 1 + 1) = 1 ∨ pickN names (0 + 1 + 1) = 2) with e | e | e <;> rw [e] at hb
    · exact ⟨old, end_full (f := 0) (by rw [hb]; rfl) f0, .inr ⟨rfl, fun h => absurd h.2.2.2 (show ¬ (11 : Int) = 0 by decide)⟩⟩
    · exact ⟨old, end_full (f := 0) (by rw [hb]; rfl) f0, .inr ⟨rfl, fun h => absurd h.2.2.2 (show ¬ (11 : Int) = 0 by decide)⟩⟩
    · exact ⟨new, end_full (f := 1) (by rw [hb]; rfl) f1, .inl rfl⟩
  have e3 : (swV3 old new (cut - 1 - 1)).did = swV3 old new (cut - 1 - 1 - 1) := did_go (S := swV3 old new (cut - 1 - 1)) rfl (show 2 ≤ cut - 1 - 1 by omega) rfl
  simp only
  rw [e3, sw_4]
  obtain ⟨q2, q3, q4⟩ := hd (swV4 old new (cut - 1 - 1 - 1))
  refine ⟨new, end_full (f := 1) ?_ (by rw [q4]; rfl), .inl rfl⟩
  unfold FS.back
  rw [q3, q2]
  show atD ((([] : List Chg).take _).foldl Chg.app [(5, 1)]) 5 = some 1
  rw [List.take_nil]; rfl
end
end Go.Proofs.Ytpckjinlopmbcaa
