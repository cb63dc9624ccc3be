/-
  The library's maps.Clone, maps.Copy, maps.Keys, slices.Sorted, slices.Sort at this program: their layings (printed by the kit's tool), and what they do.
-/
import Derived.Test.YtpckjinlopmbcaaFsW
import Derived.Shelf.SlMaps.Clone
import Derived.Shelf.SlMaps.Copy
import Derived.Shelf.SlIterI.Nil
import Derived.Shelf.SortM.Plain
import Derived.Shelf.SortM.SortNone
namespace Go.Proofs.Ytpckjinlopmbcaa
set_option linter.unusedVariables false
set_option maxRecDepth 100000
set_option linter.unusedSimpArgs false
open Go.Shelf Go.RowKit Go.Maps Go.Sort
def lay_cloneM_ren : Go.Shelf.Ren := ⟨fun | 5 => 33 | 7 => 50 | n => n, fun | 23 => 57 | 25 => 3 | 3 => 62 | 4 => 4 | 20 => 20 | n => n, fun | n => n⟩
theorem lay_cloneM : Go.Proofs.SlLaysW.n5 Try.prog lay_cloneM_ren := {
  mixed := by kernel_rfl
  f5 := ⟨Try.f33.name, by decide, Try.func33.trans (congrArg some (by kernel_rfl))⟩
  f7 := Try.func50.trans (congrArg some (by kernel_rfl))
  t4 := Try.underlying4
  a4 := Try.isAgg4
  z4 := Try.sizeOf4
  v4 := Try.zeroValue4
  t20 := Try.underlying20
  a20 := Try.isAgg20
  z20 := Try.sizeOf20
  v20 := Try.zeroValue20
  t23 := Try.underlying57
  a23 := Try.isAgg57
  z23 := Try.sizeOf57
  v23 := Try.zeroValue57 }
def lay_copyM_ren : Go.Shelf.Ren := ⟨fun | 5 => 35 | n => n, fun | 23 => 57 | 24 => 57 | 26 => 3 | 27 => 62 | 0 => 0 | 4 => 4 | n => n, fun | n => n⟩
theorem lay_copyM : Go.Proofs.SlLaysX.n5 Try.prog lay_copyM_ren := {
  mixed := by kernel_rfl
  f5 := ⟨Try.f35.name, by decide, Try.func35.trans (congrArg some (by kernel_rfl))⟩
  t0 := Try.underlying0
  a0 := Try.isAgg0
  z0 := Try.sizeOf0
  v0 := Try.zeroValue0
  t4 := Try.underlying4
  a4 := Try.isAgg4
  z4 := Try.sizeOf4
  v4 := Try.zeroValue4
  t23 := Try.underlying57
  a23 := Try.isAgg57
  z23 := Try.sizeOf57
  v23 := Try.zeroValue57
  t24 := Try.underlying57
  a24 := Try.isAgg57
  z24 := Try.sizeOf57
  v24 := Try.zeroValue57
  a26 := Try.isAgg3
  z26 := Try.sizeOf3
  a27 := Try.isAgg62
  z27 := Try.sizeOf62 }
def lay_keysA_ren : Go.Shelf.Ren := ⟨fun | 7 => 40 | 10 => 53 | n => n, fun | 23 => 57 | 26 => 3 | 3 => 62 | 28 => 75 | 0 => 0 | 27 => 74 | 33 => 61 | 4 => 4 | n => n, fun | n => n⟩
theorem lay_keysA : Go.Proofs.SlLaysZI.n7 Try.prog lay_keysA_ren := {
  mixed := by kernel_rfl
  f7 := ⟨Try.f40.name, by decide, Try.func40.trans (congrArg some (by kernel_rfl))⟩
  f10 := ⟨Try.f53.name, by decide, Try.func53.trans (congrArg some (by kernel_rfl))⟩
  t0 := Try.underlying0
  a0 := Try.isAgg0
  z0 := Try.sizeOf0
  v0 := Try.zeroValue0
  t4 := Try.underlying4
  a4 := Try.isAgg4
  z4 := Try.sizeOf4
  v4 := Try.zeroValue4
  t23 := Try.underlying57
  a23 := Try.isAgg57
  z23 := Try.sizeOf57
  v23 := Try.zeroValue57
  t26 := Try.underlying3
  a26 := Try.isAgg3
  z26 := Try.sizeOf3
  v26 := Try.zeroValue3
  t27 := Try.underlying74
  a27 := Try.isAgg74
  z27 := Try.sizeOf74
  v27 := Try.zeroValue74
  t28 := Try.underlying75
  a28 := Try.isAgg75
  z28 := Try.sizeOf75
  v28 := Try.zeroValue75
  t33 := Try.underlying61
  a33 := Try.isAgg61
  z33 := Try.sizeOf61
  v33 := Try.zeroValue61 }
def lay_sortedA_ren : Go.Shelf.Ren := ⟨fun | 6 => 39 | 8 => 51 | 9 => 52 | 11 => 59 | 13 => 61 | 12 => 60 | 23 => 71 | 24 => 72 | 14 => 62 | 15 => 63 | 16 => 64 | 17 => 65 | 18 => 66 | 19 => 67 | 20 => 68 | 21 => 69 | 22 => 70 | 25 => 73 | 26 => 74 | 27 => 75 | 28 => 76 | 29 => 77 | 30 => 78 | 31 => 79 | n => n, fun | 26 => 3 | 28 => 75 | 24 => 23 | 0 => 0 | 3 => 3 | 37 => 92 | 48 => 103 | 50 => 105 | 4 => 4 | 40 => 95 | 39 => 94 | 45 => 100 | 5 => 5 | 9 => 9 | 51 => 106 | 55 => 110 | 57 => 112 | 58 => 113 | 33 => 61 | n => n, fun | n => n⟩
theorem lay_sortedA : Go.Proofs.SlLaysZI.n6 Try.prog lay_sortedA_ren := {
  mixed := by kernel_rfl
  f6 := ⟨Try.f39.name, by decide, Try.func39.trans (congrArg some (by kernel_rfl))⟩
  f8 := ⟨Try.f51.name, by decide, Try.func51.trans (congrArg some (by kernel_rfl))⟩
  f11 := ⟨Try.f59.name, by decide, Try.func59.trans (congrArg some (by kernel_rfl))⟩
  t0 := Try.underlying0
  a0 := Try.isAgg0
  z0 := Try.sizeOf0
  v0 := Try.zeroValue0
  t24 := Try.underlying23
  a24 := Try.isAgg23
  z24 := Try.sizeOf23
  v24 := Try.zeroValue23
  t26 := Try.underlying3
  a26 := Try.isAgg3
  z26 := Try.sizeOf3
  v26 := Try.zeroValue3
  t28 := Try.underlying75
  a28 := Try.isAgg75
  z28 := Try.sizeOf75
  v28 := Try.zeroValue75
  i26 := by kernel_rfl }
def lay_sortA_ren : Go.Shelf.Ren := ⟨fun | 5 => 52 | 8 => 61 | 7 => 60 | 19 => 71 | 20 => 72 | 10 => 62 | 11 => 63 | 12 => 64 | 13 => 65 | 14 => 66 | 15 => 67 | 16 => 68 | 17 => 69 | 18 => 70 | 30 => 73 | 31 => 74 | 32 => 75 | 33 => 76 | 34 => 77 | 35 => 78 | 40 => 79 | n => n, fun | 23 => 23 | 25 => 3 | 3 => 3 | 32 => 92 | 22 => 23 | 0 => 0 | 44 => 103 | 46 => 105 | 4 => 4 | 36 => 95 | 35 => 94 | 41 => 100 | 5 => 5 | 9 => 9 | 53 => 106 | 57 => 110 | 63 => 112 | 64 => 113 | n => n, fun | n => n⟩
theorem lay_sortA : Go.Proofs.SlLaysM.n5 Try.prog lay_sortA_ren := {
  mixed := by kernel_rfl
  f5 := ⟨Try.f52.name, by decide, Try.func52.trans (congrArg some (by kernel_rfl))⟩
  f7 := ⟨Try.f60.name, by decide, Try.func60.trans (congrArg some (by kernel_rfl))⟩
  f8 := Try.func61.trans (congrArg some (by kernel_rfl))
  f10 := ⟨Try.f62.name, by decide, Try.func62.trans (congrArg some (by kernel_rfl))⟩
  f11 := ⟨Try.f63.name, by decide, Try.func63.trans (congrArg some (by kernel_rfl))⟩
  f12 := ⟨Try.f64.name, by decide, Try.func64.trans (congrArg some (by kernel_rfl))⟩
  f13 := ⟨Try.f65.name, by decide, Try.func65.trans (congrArg some (by kernel_rfl))⟩
  f14 := ⟨Try.f66.name, by decide, Try.func66.trans (congrArg some (by kernel_rfl))⟩
  f15 := ⟨Try.f67.name, by decide, Try.func67.trans (congrArg some (by kernel_rfl))⟩
  f16 := ⟨Try.f68.name, by decide, Try.func68.trans (congrArg some (by kernel_rfl))⟩
  f17 := ⟨Try.f69.name, by decide, Try.func69.trans (congrArg some (by kernel_rfl))⟩
  f18 := ⟨Try.f70.name, by decide, Try.func70.trans (congrArg some (by kernel_rfl))⟩
  f19 := Try.func71.trans (congrArg some (by kernel_rfl))
  f20 := Try.func72.trans (congrArg some (by kernel_rfl))
  f30 := ⟨Try.f73.name, by decide, Try.func73.trans (congrArg some (by kernel_rfl))⟩
  f31 := Try.func74.trans (congrArg some (by kernel_rfl))
  f32 := Try.func75.trans (congrArg some (by kernel_rfl))
  f33 := ⟨Try.f76.name, by decide, Try.func76.trans (congrArg some (by kernel_rfl))⟩
  f34 := ⟨Try.f77.name, by decide, Try.func77.trans (congrArg some (by kernel_rfl))⟩
  f35 := ⟨Try.f78.name, by decide, Try.func78.trans (congrArg some (by kernel_rfl))⟩
  f40 := ⟨Try.f79.name, by decide, Try.func79.trans (congrArg some (by kernel_rfl))⟩
  t0 := Try.underlying0
  a0 := Try.isAgg0
  z0 := Try.sizeOf0
  v0 := Try.zeroValue0
  t3 := Try.underlying3
  a3 := Try.isAgg3
  z3 := Try.sizeOf3
  v3 := Try.zeroValue3
  t4 := Try.underlying4
  a4 := Try.isAgg4
  z4 := Try.sizeOf4
  v4 := Try.zeroValue4
  t5 := Try.underlying5
  a5 := Try.isAgg5
  z5 := Try.sizeOf5
  v5 := Try.zeroValue5
  t9 := Try.underlying9
  a9 := Try.isAgg9
  z9 := Try.sizeOf9
  v9 := Try.zeroValue9
  t22 := Try.underlying23
  a22 := Try.isAgg23
  z22 := Try.sizeOf23
  v22 := Try.zeroValue23
  t23 := Try.underlying23
  a23 := Try.isAgg23
  z23 := Try.sizeOf23
  v23 := Try.zeroValue23
  t25 := Try.underlying3
  a25 := Try.isAgg3
  z25 := Try.sizeOf3
  v25 := Try.zeroValue3
  t32 := Try.underlying92
  a32 := Try.isAgg92
  z32 := Try.sizeOf92
  v32 := Try.zeroValue92
  t35 := Try.underlying94
  a35 := Try.isAgg94
  z35 := Try.sizeOf94
  v35 := Try.zeroValue94
  t36 := Try.underlying95
  a36 := Try.isAgg95
  z36 := Try.sizeOf95
  v36 := Try.zeroValue95
  t41 := Try.underlying100
  a41 := Try.isAgg100
  z41 := Try.sizeOf100
  v41 := Try.zeroValue100
  t44 := Try.underlying103
  a44 := Try.isAgg103
  z44 := Try.sizeOf103
  v44 := Try.zeroValue103
  t46 := Try.underlying105
  a46 := Try.isAgg105
  z46 := Try.sizeOf105
  v46 := Try.zeroValue105
  t53 := Try.underlying106
  a53 := Try.isAgg106
  z53 := Try.sizeOf106
  v53 := Try.zeroValue106
  t57 := Try.underlying110
  a57 := Try.isAgg110
  z57 := Try.sizeOf110
  v57 := Try.zeroValue110
  t63 := Try.underlying112
  a63 := Try.isAgg112
  z63 := Try.sizeOf112
  v63 := Try.zeroValue112
  t64 := Try.underlying113
  a64 := Try.isAgg113
  z64 := Try.sizeOf113
  v64 := Try.zeroValue113 }

/-- maps.Clone of names. -/
theorem lib_clone {w : World} {fb : Nat → Nat} {b : Nat} {l : Dir} (h : OwnD w fb b l) : Calls Try.prog 33 #[.map (some b)] w fun e w' => e = .returned (.map (some w.heap.size)) ∧ OwnD w' fb w.heap.size l ∧ Below w.heap.size w w' :=
  (AnyW.maps_Clone_owns lay_cloneM 3 elF b l.length (dirD fb l) w h).mono fun e w' ⟨h1, h2, _, h4⟩ => ⟨h1, h2, h4⟩
/-- maps.Copy of names into an empty map. -/
theorem lib_copy {w : World} {fb : Nat → Nat} {bd bs : Nat} {l : Dir} (hd : OwnD w fb bd []) (hs : OwnD w fb bs l) (hne : bd ≠ bs) (hl : l.length ≤ 1000000) (hr : Ris l) : Calls Try.prog 35 #[.map (some bd), .map (some bs)] w fun e w' => e = .returned (.tuple #[]) ∧ OwnD w' fb bd l ∧ w.grownBy w' (some bd) :=
  (AnyX.maps_Copy lay_copyM keyI elF bd bs 0 l.length (.map []) (dirD fb l) w hd hs hne (by rw [dirD_size]; unfold maxLen; omega)).mono fun e w' ⟨h1, h2, _, h4⟩ => ⟨h1, ownD_size (by rw [dirD_merge fb hr] at h2; exact h2), h4⟩
theorem sortsA (m : Nat) : AnyZI.SortsIn Try.prog lay_sortedA_ren Fence.wide m :=
  ⟨fun blk off cap ss W hH hblk hsz => callsIn_wide.2 (AnyM.slices_Sort_int lay_sortA blk off cap ss W hH hblk hsz),
   fun p cap W => callsIn_wide.2 (AnyM.slices_Sort_int_none lay_sortA p cap W)⟩
/-- What Names leaves. -/
def NamesP (w : World) (xs : List Int) (e : Ending) (w' : World) : Prop :=
  ∃ v, e = .returned v ∧ Own w' 3 1 v xs.length (ints xs) ∧ (∀ k, v.ownBlock = some k → w.heap.size ≤ k) ∧ Below w.heap.size w w'
set_option maxHeartbeats 1000000 in
theorem fs_names {w : World} {base bd m : Nat} {fp : Nat → Prop} {R : FRef} {S : FS} (h : DRep w base fp bd R m S) : Calls Try.prog 21 #[.pointer (some ⟨bd, 0, none⟩)] w (NamesP w S.names) := by
  have c2 : w.cell? ⟨bd, 2, none⟩ = some (.map (some R.bn)) := h.blk.cell 2
  have hown := h.parts.now
  have hris := h.inv.now
  have hsz : S.now.length ≤ 1000 := Nat.le_trans h.small.nowl h.small.top
  have hbl := hown.lt
  unfold FS.names
  generalize S.now = l at *
  generalize R.bn = b at *
  clear h
  refine (callsIn_wide (n := 6)).1 ?_
  have hseq : SeqGives Fence.wide 2 Try.prog 53 #[.pointer (some ⟨w.heap.size, 0, none⟩)] encZ (fun ss => ss.Perm (intKeys (dirD R.fb l))) (Maps.size (dirD R.fb l)) (w.alloc (.cells #[.map (some b)] 57)) :=
    AnyZI.keys_gives (ρ := lay_keysA_ren) { lay_keysA with } Fence.wide _ trivial rfl (by omega) w.heap.size b l.length (dirD R.fb l) _ (by simp) (by simp) (by
      obtain ⟨es, clock, hb, Ft, hs, hD⟩ := hown
      exact ⟨es, clock, (Below.heap_alloc _ _ b hbl).trans hb, Ft, hs, hD⟩)
  have cK : ∀ mb W, CallsIn Fence.wide 5 Try.prog 40 #[.map mb] W fun e w' => e = .returned (.func (.func 53) #[] #[.pointer (some ⟨W.heap.size, 0, none⟩)]) ∧ w' = W.alloc (.cells #[.map mb] 57) := fun mb W => AnyZI.keys_in lay_keysA Fence.wide 5 trivial rfl mb W
  have hmax : Maps.size (dirD R.fb l) ≤ maxLen := by rw [dirD_size]; unfold maxLen; omega
  have hbytes : Maps.size (dirD R.fb l) * 8 ≤ 140737488355328 := by rw [dirD_size]; omega
  have cS := AnyZI.sorted_in lay_sortedA Fence.wide 5 trivial trivial trivial trivial rfl (by omega) (sortsA _) (enters_of Try.func52 (by kernel_rfl) rfl) 53 #[.pointer (some ⟨w.heap.size, 0, none⟩)] trivial (enters_of Try.func53 (by kernel_rfl) rfl) _ _ hmax hbytes _ hseq
  change CallsIn _ _ Try.prog 39 _ _ _ at cS
  have hfK : Fence.wide.fn 40 := trivial
  have hfS : Fence.wide.fn 39 := trivial
  refine callsIn_of_wp Try.func21 rfl trivial ?_ rfl
  simp only [Try.ntmps21, List.size_toArray, List.length_cons, List.length_nil, Nat.reduceAdd, Nat.reduceSub, Array.replicate_succ, Array.replicate_zero, List.push_toArray, List.append_toArray, List.nil_append, List.cons_append]
  gi_wp2_with (first
    | (gi_at_call 40; refine (cK _ _).mono ?_; rintro e w' ⟨rfl, rfl⟩)
    | (gi_at_call 39; refine cS.mono ?_; rintro e w' ⟨v, ss, rfl, hS, hrow, hnil, hb⟩))
  go_ret
  rw [dirD_keys] at hS
  have e1 := ris_sorted hris hS
  have e2 : ss.length = l.length := by have := hS.length_eq; simpa using this
  rw [e1, e2] at hrow
  refine ⟨v, rfl, ?_, fun k hk => ?_, ((Below.refl _ w).alloc (Nat.le_refl _) _).trans (hb.mono (by simp))⟩
  · have := ownsRow_base_a hrow (Nat.zero_le _)
    rw [List.length_map]
    exact this
  · have := (hrow.lt k hk).1
    simp at this; omega
end Go.Proofs.Ytpckjinlopmbcaa
