/-
  The layer's awake: the chapter's example.
-/
import Derived.Test.YtpckjinlopmbcaaFsD
import Derived.Lib.SlBytesConst
import Derived.Laws.BytesArg
namespace Go.Proofs.Ytpckjinlopmbcaa
set_option linter.unusedVariables false
set_option maxRecDepth 100000
set_option linter.unusedSimpArgs false
open Go.RowKit Go.Maps
abbrev abc : List Int := [97, 98, 99]
/-- The world behind a text's bytes. -/
theorem abc_rb (w : World) : Rb (w.alloc (.cells #[.int .u8 97, .int .u8 98, .int .u8 99] 5 (3, 4))) (.slice (some ⟨w.heap.size, 0, none⟩) 3 3) abc := by
  refine ⟨_, 3, rfl, by simp, by simp, fun _ => ⟨_, 0, rfl, by simp, fun i hi => ?_⟩⟩
  rw [World.cell?_alloc_mark]
  match i, hi with
  | 0, _ => rfl
  | 1, _ => rfl
  | 2, _ => rfl
theorem rb_str {w : World} {v : Value} {xs : List Int} (h : Rb w v xs) : (convert 22 9 v).run Try.prog w = .ok (.string (strOfNums xs)) w := by
  obtain ⟨a, c, rfl, _, _, h3⟩ := h
  rcases xs with _ | ⟨x, xs⟩
  · cases a with
    | none => exact run_convert_bytes_nil w _ _ Try.underlying22 Try.underlying5 _ _ _ Try.underlying9
    | some ad =>
      rw [run_convert_bytes_string w _ _ _ _ _ _ Try.underlying22 Try.underlying5 Try.underlying9]
      exact run_bytesToString w ad 0 c [] (run_loadCells_list w ad [] (fun j v hj => by simp at hj))
  · obtain ⟨b, o, rfl, _, hc⟩ := h3 (by simp)
    exact run_convert_bytes_arg w _ _ Try.underlying22 Try.underlying5 b o _ c (x :: xs) rfl (fun i hi => hc i hi) _ Try.underlying9
theorem two_rd (w : World) : Rd (w.alloc (.cells #[.int .i64 2] 3)) (.slice (some ⟨w.heap.size, 0, none⟩) 1 1) [2] := by
  have := own_lit w 3 (ints [2]) (by simp [ints, maxLen])
  exact own_rd (n := 1) this
def sA1 : FS := ((zeroF 100).append 5 abc).1
def sA2 : FS := sA1.syncDir.1
def sA3 : FS := sA2.crash 0 [2]
def sA4 : FS := sA1.crash 0 [2]
theorem e1A : ((zeroF 100).append 5 abc).2 = 0 := by rfl
theorem e2A : sA1.syncDir.2 = 0 := by rfl
theorem e3A : sA3.read 5 = ([97, 98], 0) := by rfl
theorem e4A : sA4.read 5 = ([], 8) := by rfl
theorem e5A : sA3.out = false := by rfl
theorem new_bd {k B : Nat} (h : (Value.slice (some ⟨k, 0, none⟩) 3 3).ownBlock = some B) : B = k := by simpa [Value.ownBlock] using h.symm
set_option maxHeartbeats 3200000 in
theorem f_awake (w : World) : Calls Try.prog 9 #[] w fun e w' => e = .returned (.bool true) ∧ Below w.heap.size w w' := by
  have kc := fun (w : World) (C : Array Value) (n c : Nat) => Lib.run_convert_bytes_const (P := Try.prog) w 22 5 C n c Try.underlying22 Try.underlying5
  go_enter Try.func9, Try.ntmps9
  go_wp2_with fail
  refine (d_new w 100 (by decide)).mono ?_
  rintro e w1 ⟨b, rfl, hD1, hB1⟩
  have ha : Below w1.heap.size w1 (w1.alloc (.cells #[.int .u8 97, .int .u8 98, .int .u8 99] 5 (3, 4))) := (Below.refl _ _).alloc (Nat.le_refl _) _
  go_wp2_with fail
  refine (d_append hD1 ha (by omega) (n := 5) (bs := abc) (by decide) (abc_rb w1) (by simp) (fun _ k hk => .inr (by simp [Value.ownBlock] at hk; omega))).mono ?_
  rintro e w2 ⟨rfl, hD2, hB2⟩
  rw [e1A]
  have hb2 := (hB1.trans (ha.mono hB1.size)).trans hB2
  change Disk _ _ _ _ sA1 at hD2
  clear hD1 ha hB1 hB2
  go_wp2_with fail
  refine (d_syncDir hD2 (by omega)).mono ?_
  rintro e w3 ⟨rfl, hD3, hB3⟩
  rw [e2A]
  have hb3 := hb2.trans hB3
  change Disk _ _ _ _ sA2 at hD3
  clear hD2 hb2 hB3
  have ha : Below w3.heap.size w3 (w3.alloc (.cells #[.int .i64 2] 3)) := (Below.refl _ _).alloc (Nat.le_refl _) _
  go_wp2_with fail
  refine (d_crash hD3 ha (by omega) (names := 0) (keep := [2]) (two_rd w3) (by simp) (fun _ k hk => .inr (by simp [Value.ownBlock] at hk; omega))).mono ?_
  rintro e w4 ⟨rfl, hD4, hB4⟩
  have hb4 := (hb3.trans (ha.mono hb3.size)).trans hB4
  change Disk _ _ _ _ sA3 at hD4
  clear hD3 ha hb3 hB4
  go_wp2_with fail
  refine (d_read hD4 (n := 5) (by decide)).mono ?_
  rintro e w5 ⟨v5, rfl, hO5, hf5, hB5⟩
  rw [e3A] at hO5 ⊢
  have hD5 := hD4.below hB5
  have hb5 := hb4.trans (hB5.mono hb4.size)
  obtain ⟨g5, c5, e5, -, -⟩ := own_open hO5 (by decide)
  simp only [List.length_cons, List.length_nil] at e5
  subst e5
  clear hD4 hb4 hB5
  go_wp2_with fail
  refine (d_new w5 100 (by decide)).mono ?_
  rintro e w6 ⟨x, rfl, hX6, hB6⟩
  have HD5 := Lib.hid hD5
  have HO5 := Lib.hid hO5
  have HB5 := Lib.hid hb5
  clear hD5 hO5 hb5 hf5
  have ha : Below w6.heap.size w6 (w6.alloc (.cells #[.int .u8 97, .int .u8 98, .int .u8 99] 5 (3, 4))) := (Below.refl _ _).alloc (Nat.le_refl _) _
  go_wp2_with fail
  refine (d_append hX6 ha (by omega) (n := 5) (bs := abc) (by decide) (abc_rb w6) (by simp) (fun _ k hk => .inr (by simp [Value.ownBlock] at hk; omega))).mono ?_
  rintro e w7 ⟨rfl, hX7, hB7⟩
  have hb7 := (hB6.trans (ha.mono hB6.size)).trans hB7
  change Disk _ _ _ _ sA1 at hX7
  clear hX6 ha hB6 hB7
  have ha : Below w7.heap.size w7 (w7.alloc (.cells #[.int .i64 2] 3)) := (Below.refl _ _).alloc (Nat.le_refl _) _
  go_wp2_with fail
  refine (d_crash hX7 ha (by omega) (names := 0) (keep := [2]) (two_rd w7) (by simp) (fun _ k hk => .inr (by simp [Value.ownBlock] at hk; omega))).mono ?_
  rintro e w8 ⟨rfl, hX8, hB8⟩
  have hb8 := (hb7.trans (ha.mono hb7.size)).trans hB8
  change Disk _ _ _ _ sA4 at hX8
  clear hX7 ha hb7 hB8
  go_wp2_with fail
  refine (d_read hX8 (n := 5) (by decide)).mono ?_
  rintro e w9 ⟨v9, rfl, hO9, hf9, hB9⟩
  rw [e4A] at hO9 ⊢
  have hb9 := hb8.trans (hB9.mono hb8.size)
  have hD9 := HD5.out.below hb9
  have hO9 := own_keeps HO5.out (Keeps.ofBelow (F := fun _ => False) hb9) (fun _ _ h => h)
  have hst := rb_str (own_rb hO9)
  have hss2 : (strOfNums [97, 98]).toList = [97, 98] := by rw [ByteArray.toList_eq]; rfl
  have hss : ((strOfNums [97, 98]).toList == (ByteArray.mk #[97, 98]).toList) = true := by rw [ByteArray.toList_eq, ByteArray.toList_eq]; decide
  have hon := d_on hD9
  rw [e5A] at hon
  have HB9 := Lib.hid (HB5.out.trans (hb9.mono HB5.out.size))
  clear hX8 hb8 hB9 hf9 hD9 hb9
  go_wp2_with (first
    | (go_at_call 27; refine hon.mono ?_; rintro e w10 ⟨rfl, rfl⟩)
    | go_in)
  go_ret
  exact ⟨rfl, HB9.out⟩
end Go.Proofs.Ytpckjinlopmbcaa
