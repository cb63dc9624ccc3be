/-
  Package files: New.
-/
import Derived.Test.YtpckjinlopmbcaaFsM6
import Derived.Test.YtpckjinlopmbcaaWLast
import Derived.StillTailTactics
namespace Go.Proofs.Ytpckjinlopmbcaa
set_option linter.unusedVariables false
set_option maxRecDepth 100000
set_option linter.unusedSimpArgs false
open Go.RowKit Go.Maps
open Go.Proofs.YtpckjinlopmbcaaW.PrintLast
section
variable {w w' : World} {base bd m : Nat} {fp fp' : Nat → Prop} {R : FRef} {S : FS}
/-- Where a new disk lies. -/
def newR (w : World) : FRef := ⟨w.heap.size, w.heap.size + 1, fun _ => 0, fun _ => .slice none 0 0, .slice none 0 0, []⟩
def newW (w : World) (room : Int) : World := ((w.alloc (.map #[] 0)).alloc (.map #[] 0)).alloc (.cells #[.int .i64 room, .map (some w.heap.size), .map (some (w.heap.size + 1)), .slice none 0 0, .bool false, .bool false, .int .i64 0] 60)
def NewP (w : World) (room : Int) (e : Ending) (w' : World) : Prop := ∃ bd fp R, e = .returned (.pointer (some ⟨bd, 0, none⟩)) ∧ DRep w' w.heap.size fp bd R 0 (zeroF room) ∧ (∀ q, fp q → w.heap.size ≤ q) ∧ Below w.heap.size w w'
theorem new_rep (w : World) (room : Int) (hr : (Lit.int .i64 room).wf = true) : NewP w room (.returned (.pointer (some ⟨w.heap.size + 1 + 1, 0, none⟩))) (newW w room) := by
  have hb : Below w.heap.size w (newW w room) := (((Below.refl _ w).alloc (Nat.le_refl _) _).alloc (by simp) _).alloc (by simp; omega) _
  have hs : (newW w room).heap.size = w.heap.size + 1 + 1 + 1 := by simp [newW]
  have m1 : OwnD (w.alloc (.map #[] 0)) (newR w).fb w.heap.size [] := World.ownsMap_made w Try.prog 3 elF
  have m2 : OwnD ((w.alloc (.map #[] 0)).alloc (.map #[] 0)) (newR w).fb (w.heap.size + 1) [] := by
    have := World.ownsMap_made (w.alloc (.map #[] 0)) Try.prog 3 elF
    have hz : (w.alloc (.map #[] 0)).heap.size = w.heap.size + 1 := by simp
    rw [hz] at this
    exact this
  have k1 : Keeps (fun _ => False) (w.alloc (.map #[] 0)) (newW w room) := ((Keeps.refl _ _).alloc _).alloc _
  have k2 : Keeps (fun _ => False) ((w.alloc (.map #[] 0)).alloc (.map #[] 0)) (newW w room) := (Keeps.refl _ _).alloc _
  have hd : Blk (newW w room) (w.heap.size + 1 + 1) (dskV (newR w) (zeroF room)) 60 := by
    have := Blk.new ((w.alloc (.map #[] 0)).alloc (.map #[] 0)) #[.int .i64 room, .map (some w.heap.size), .map (some (w.heap.size + 1)), .slice none 0 0, .bool false, .bool false, .int .i64 0] 60
    simpa [newW, dskV, newR, zeroF] using this
  refine ⟨_, fun q => w.heap.size ≤ q ∧ q < (newW w room).heap.size, newR w, rfl, ⟨⟨hd, ⟨by omega, by omega⟩, ⟨ownD_keeps m1 k1 (fun h => h), ownD_keeps m2 k2 (fun h => h), by show w.heap.size ≠ w.heap.size + 1; omega, ⟨Nat.le_refl _, by show w.heap.size < _; omega⟩, ⟨by show _ ≤ w.heap.size + 1; omega, by show w.heap.size + 1 < _; omega⟩, ⟨fun f hf => absurd hf (Nat.not_lt_zero _), fun f hf => absurd hf (Nat.not_lt_zero _), fun f g hf => absurd hf (Nat.not_lt_zero _), fun f g k hf => absurd hf (Nat.not_lt_zero _), fun f hf => absurd hf (Nat.not_lt_zero _), fun f k hf => absurd hf (Nat.not_lt_zero _)⟩, ⟨World.ownsRow_nil .., rfl, fun i c hi => by simp [zeroF] at hi, fun k hk => by simp [newR, Value.ownBlock] at hk⟩⟩, ?_, fun k hk => hk⟩, ?_⟩, fun q hq => hq.1, hb⟩
  · exact ⟨List.Pairwise.nil, List.Pairwise.nil, fun x hx => by simp [zeroF] at hx, fun c hc => by simp [zeroF] at hc, fun f => Nat.le_refl _, rfl⟩
  · exact ⟨by omega, hr, by simp [zeroF], fun e => by simp [zeroF] at e, Nat.le_refl _, Nat.le_refl _, Nat.le_refl _, fun f => Nat.zero_le _⟩
set_option maxHeartbeats 1600000 in
theorem fs_new (w : World) (room : Int) (hr : (Lit.int .i64 room).wf = true) : Calls Try.prog 10 #[.int .i64 room] w (NewP w room) := by
  have hmm := @run_makeMap Try.prog
  have FIN := Lib.hid (new_rep w room hr)
  clear hr
  go_enter Try.func10, Try.ntmps10
  go_wp2
  go_ret
  exact FIN.out
end
end Go.Proofs.Ytpckjinlopmbcaa
