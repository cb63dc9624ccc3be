/-
  FilesNames.
-/
import Derived.Test.YtpckjinlopmbcaaFsG
import Derived.Test.YtpckjinlopmbcaaWLast
import Derived.StillTailTactics
namespace Go.Proofs.Ytpckjinlopmbcaa
set_option linter.unusedVariables false
set_option maxRecDepth 100000
set_option linter.unusedSimpArgs false
open Go.RowKit
open Go.Proofs.YtpckjinlopmbcaaW.PrintLast
/-- The power is there, and will be. -/
structure OffI (S : FS) : Prop where
  out : S.out = false
  armed : S.armed = false
section
variable {S : FS}
theorem OffI.did (h : OffI S) : OffI S.did := by unfold FS.did; rw [if_neg (by rw [h.armed]; simp)]; exact h
theorem OffI.change (h : OffI S) (c : Chg) : OffI (S.change c) := ⟨h.out, h.armed⟩
theorem off_append (h : OffI S) (n : Int) (b : List Int) : OffI (S.append n b).1 := by
  unfold FS.append
  split
  · exact h
  · split
    · exact h
    · split
      · exact h
      · unfold FS.add FS.mkF
        split
        · exact OffI.did ⟨h.out, h.armed⟩
        · exact OffI.did ⟨h.out, h.armed⟩
theorem off_rename (h : OffI S) (n to : Int) : OffI (S.rename n to).1 := by
  unfold FS.rename
  split
  · exact h
  · split
    · exact h
    · split
      · exact (h.change _).did
      · exact h.did
theorem off_remove (h : OffI S) (n : Int) : OffI (S.remove n).1 := by
  unfold FS.remove
  split
  · exact (h.change _).did
  · exact h
theorem off_crash (S : FS) (n : Int) (k : List Int) : OffI (S.crash n k) := ⟨rfl, rfl⟩
theorem off_why (h : OffI S) (n : Int) : S.why n = if atD S.now n = none then 8 else 0 := by unfold FS.why; rw [if_neg (by rw [h.out]; simp)]
end
def thereB (xs : List Int) (name : Int) : Bool := xs.any fun x => x == name
theorem thereB_succ (xs : List Int) (name : Int) {j : Nat} (hj : j < xs.length) : thereB (xs.take (j + 1)) name = (thereB (xs.take j) name || xs.getD j 0 == name) := by
  unfold thereB
  rw [List.take_add_one, List.getElem?_eq_getElem hj, Option.toList_some, List.any_append, List.getD_eq_getElem?_getD, List.getElem?_eq_getElem hj]
  simp
theorem thereB_all {l : Dir} (h : Ris l) (name : Int) : thereB (l.map (·.1)) name = decide (atD l name ≠ none) := by
  cases ha : atD l name with
  | none =>
    simp only [ne_eq, not_true_eq_false, decide_false]
    unfold thereB
    rw [List.any_eq_false]
    intro x hx he
    obtain ⟨y, hy, rfl⟩ := List.mem_map.1 hx
    have : y.1 = name := by simpa using he
    exact atD_none ha (f := y.2) (by rw [← this]; exact hy)
  | some f =>
    have := atD_some ha
    simp only [ne_eq, reduceCtorEq, not_false_eq_true, decide_true]
    unfold thereB
    rw [List.any_eq_true]
    exact ⟨name, List.mem_map.2 ⟨_, this, rfl⟩, by simp⟩
theorem usedD_succ (files : Nat → PFile) {l : Dir} {j : Nat} {x : Int × Nat} (hx : l[j]? = some x) : usedD files (l.take (j + 1)) = usedD files (l.take j) + (files x.2).b.length := by
  unfold usedD
  rw [List.take_add_one, hx, Option.toList_some, List.map_append, List.sum_append]
  simp
theorem usedD_take_le (files : Nat → PFile) (l : Dir) (j : Nat) : usedD files (l.take j) ≤ usedD files l := by
  have : usedD files l = usedD files (l.take j) + usedD files (l.drop j) := by
    unfold usedD
    rw [← List.sum_append, ← List.map_append, List.take_append_drop]
  omega
/-- What a name that there is reads. -/
theorem read_at {S : FS} (h : OffI S) (I : FInv S) {x : Int × Nat} (hx : x ∈ S.now) : S.read x.1 = ((S.files x.2).b, 0) := by
  have ha : atD S.now x.1 = some x.2 := I.now.at_ hx
  have hw : S.why x.1 = 0 := by rw [off_why h, ha]; rfl
  unfold FS.read
  rw [if_pos hw]
  unfold FS.fid
  rw [ha]; rfl
theorem ris_get {l : Dir} (h : Ris l) {i : Nat} {x y : Int × Nat} (hx : l[i]? = some x) (hy : l[i + 1]? = some y) : x.1 < y.1 := by
  obtain ⟨h1, rfl⟩ := List.getElem?_eq_some_iff.1 hx
  obtain ⟨h2, rfl⟩ := List.getElem?_eq_some_iff.1 hy
  exact List.pairwise_iff_getElem.1 h i (i + 1) h1 h2 (by omega)
set_option maxHeartbeats 6400000 in
theorem f_names {w : World} {room name : Int} (hroom : (Lit.int .i64 room).wf = true) (hname : (Lit.int .i64 name).wf = true) {a : Option Addr} {len cap : Nat} {f : Nat → OpF} {vb vk : Nat → Value} (h : IsOpsF w a len f vb vk) (hl : len ≤ 9223372036854775807) :
    Calls Try.prog 5 #[.int .i64 room, .slice a len cap, .int .i64 name] w fun e w' => e = .returned (.bool true) ∧ Below w.heap.size w w' := by
  have HO := Lib.hid h
  clear h
  go_enter Try.func5, Try.ntmps5
  go_wp2_with fail
  refine (f_awake w).mono ?_
  rintro e w1 ⟨rfl, hB1⟩
  go_wp2_with fail
  refine (f_few (HO.out.below hB1 (Nat.le_refl _)) hl).mono ?_
  rintro e w2 ⟨r, rfl, hr1, hB2⟩
  have hB2' := hB1.trans (hB2.mono hB1.size)
  clear hB1 hB2
  go_wp2_with fail
  refine (d_new w2 room hroom).mono ?_
  rintro e w3 ⟨b, rfl, hD3, hB3⟩
  have hL3 : LoopF w w3 w2.heap.size b 0 (zeroF room) := ⟨hD3, hB2'.trans (hB3.mono hB2'.size), hB2'.size⟩
  clear hB3 hB2' hD3
  generalize w2.heap.size = B at *
  clear w1 w2
  cases r with
  | false =>
    go_wp2_with fail
    go_ret
    exact ⟨rfl, hL3.bel⟩
  | true =>
    have hF := hr1 rfl
    have HF := Lib.hid hF
    have h150 := hF.1
    clear hr1 hF
    go_wp2_with fail
    go_loopw [10] (fun iv wr => ∃ (i m : Nat) (S : FS), i ≤ len ∧ iv = .int .i64 i ∧ m ≤ i ∧ LoopF w wr B b m S ∧ OffI S) (fun iv _ => len - (intOf iv).toNat)
    case atStart => exact ⟨0, _, _, by omega, rfl, by omega, hL3, ⟨rfl, rfl⟩⟩
    case round =>
      obtain ⟨i, m, S, hi, rfl, hm, hL, hOI⟩ := hrel
      by_cases hlt : i < len
      · obtain ⟨bb, oo, rfl, hlb, hc⟩ := HO.out (by omega)
        have hA := hc i hlt
        have hAt := hA.below hL.bel (Nat.le_refl _)
        have hfew := HF.out.2 i hlt
        have hblk := fun h0 => rb_block hA.rb h0
        have hkbl := fun h0 => rd_block hA.rk h0
        clear hA hc
        generalize f i = op at *
        obtain ⟨kd, nm, nn, bs, ks⟩ := op
        obtain ⟨c0, c1, c2, c3, c4, rb, rk, n1, n2⟩ := hAt
        simp only at c0 c1 c2 c3 c4 rb rk n1 n2 hfew hblk hkbl
        obtain ⟨av, cv, ev, -⟩ := id rb
        obtain ⟨ak, ck, ek, -⟩ := id rk
        rw [ev] at c3
        rw [ek] at c4
        have d2 : decide ((i : Int) < (len : Int)) = true := decide_eq_true (by omega)
        have i1 : (0 : Int) ≤ (i : Int) := by omega
        have i2 : (i : Int) < (len : Int) := by omega
        have wi : IntKind.i64.wrap ((i : Int) + 1) = (i : Int) + 1 := IntWalk.i64_in _ (by omega)
        have hle := hL.le
        have hbB : bb < B := Nat.lt_of_lt_of_le hlb hle
        have HL := Lib.hid hL
        have HRB := Lib.hid rb
        have HRK := Lib.hid rk
        have HBLK := Lib.hid hblk
        have HKBL := Lib.hid hkbl
        have HOI := Lib.hid hOI
        rw [ev] at HRB HBLK
        rw [ek] at HRK HKBL
        clear hL rb rk ev ek hblk hkbl hOI
        rcases (by omega : kd = 0 ∨ kd = 3 ∨ kd = 4 ∨ kd = 7 ∨ (kd ≠ 0 ∧ kd ≠ 3 ∧ kd ≠ 4 ∧ kd ≠ 7)) with hk | hk | hk | hk | ⟨hk0, hk3, hk4, hk7⟩
        · skip
          have e0 : (kd == 0) = true := by simp [hk]
          have e3 : (kd == 3) = false := by rw [hk]; decide
          have e4 : (kd == 4) = false := by rw [hk]; decide
          have e7 : (kd == 7) = false := by rw [hk]; decide
          have HA := Lib.hid (d_append HL.out.drew.d (Below.refl _ _) (by omega) (n := nm) (bs := bs) n1 HRB.out (by omega) (fun h0 k hk => .inl (Nat.lt_of_lt_of_le (HBLK.out h0 k hk) hle)))
          go_wp2_with fail
          refine start_ (n := 12) (S := fun w' => w'.cell? ⟨bb, oo + i * 5 + 1, none⟩ = some (.int .i64 nm) ∧ w'.cell? ⟨bb, oo + i * 5 + 3, none⟩ = some (.slice av bs.length cv)) (ds := []) #[false, false, false, false, false, false, false, false, false, false, false, false] (by kernel_rfl) rfl rfl ⟨c1, c3⟩ (fun hHeld => ?_)
          refine pure_ (i := 0) (N := some 52) (v := ?_) (a' := ?_) #[true, false, false, false, false, false, false, false, false, false, false, false] rfl rfl (by kernel_rfl) (fun _ _ _ h => h) (Or.inl ⟨by rfl, ?_⟩) ?_ ?_
          rotate_left
          · intro w'
            go_simp
            with_reducible rfl
          rotate_left
          · simp only [Act.put, List.setIfInBounds_toArray, List.set_cons_zero, List.set_cons_succ, i64_w, i32_w]
            rfl
          refine pure_ (i := 1) (N := some 53) (v := ?_) (a' := ?_) #[true, true, false, false, false, false, false, false, false, false, false, false] rfl rfl (by kernel_rfl) (fun _ _ _ h => h) (Or.inl ⟨by rfl, ?_⟩) ?_ ?_
          rotate_left
          · intro w'
            go_simp
            with_reducible rfl
          rotate_left
          · simp only [Act.put, List.setIfInBounds_toArray, List.set_cons_zero, List.set_cons_succ, i64_w, i32_w]
            rfl
          refine pure_ (i := 2) (N := some 54) (v := ?_) (a' := ?_) #[true, true, true, false, false, false, false, false, false, false, false, false] rfl rfl (by kernel_rfl) (fun _ _ _ h => h) (Or.inl ⟨by rfl, ?_⟩) ?_ ?_
          rotate_left
          · intro w'
            go_simp
            with_reducible rfl
          rotate_left
          · simp only [Act.put, List.setIfInBounds_toArray, List.set_cons_zero, List.set_cons_succ, i64_w, i32_w]
            rfl
          refine pure_ (i := 3) (N := some 55) (v := ?_) (a' := ?_) #[true, true, true, true, false, false, false, false, false, false, false, false] rfl rfl (by kernel_rfl) (fun _ _ _ h => h) (Or.inl ⟨by rfl, ?_⟩) ?_ ?_
          rotate_left
          · intro w'
            go_simp
            with_reducible rfl
          rotate_left
          · simp only [Act.put, List.setIfInBounds_toArray, List.set_cons_zero, List.set_cons_succ, i64_w, i32_w]
            rfl
          refine pure_ (i := 4) (N := some 56) (v := ?_) (a' := ?_) #[true, true, true, true, true, false, false, false, false, false, false, false] rfl rfl (by kernel_rfl) (fun _ _ _ h => h) (Or.inl ⟨by rfl, ?_⟩) ?_ ?_
          rotate_left
          · intro w'
            go_simp
            with_reducible rfl
          rotate_left
          · simp only [Act.put, List.setIfInBounds_toArray, List.set_cons_zero, List.set_cons_succ, i64_w, i32_w]
            rfl
          refine pure_ (i := 6) (N := some 58) (v := ?_) (a' := ?_) #[true, true, true, true, true, false, true, false, false, false, false, false] rfl rfl (by kernel_rfl) (fun _ _ _ h => h) (Or.inl ⟨by rfl, ?_⟩) ?_ ?_
          rotate_left
          · intro w'
            go_simp
            with_reducible rfl
          rotate_left
          · simp only [Act.put, List.setIfInBounds_toArray, List.set_cons_zero, List.set_cons_succ, i64_w, i32_w]
            rfl
          refine pure_ (i := 7) (N := some 59) (v := ?_) (a' := ?_) #[true, true, true, true, true, false, true, true, false, false, false, false] rfl rfl (by kernel_rfl) (fun _ _ _ h => h) (Or.inl ⟨by rfl, ?_⟩) ?_ ?_
          rotate_left
          · intro w'
            go_simp
            with_reducible rfl
          rotate_left
          · simp only [Act.put, List.setIfInBounds_toArray, List.set_cons_zero, List.set_cons_succ, i64_w, i32_w]
            rfl
          refine pure_ (i := 8) (N := some 60) (v := ?_) (a' := ?_) #[true, true, true, true, true, false, true, true, true, false, false, false] rfl rfl (by kernel_rfl) (fun _ _ _ h => h) (Or.inl ⟨by rfl, ?_⟩) ?_ ?_
          rotate_left
          · intro w'
            go_simp
            with_reducible rfl
          rotate_left
          · simp only [Act.put, List.setIfInBounds_toArray, List.set_cons_zero, List.set_cons_succ, i64_w, i32_w]
            rfl
          refine pure_ (i := 9) (N := some 61) (v := ?_) (a' := ?_) #[true, true, true, true, true, false, true, true, true, true, false, false] rfl rfl (by kernel_rfl) (fun _ _ _ h => h) (Or.inl ⟨by rfl, ?_⟩) ?_ ?_
          rotate_left
          · intro w'
            go_simp
            with_reducible rfl
          rotate_left
          · simp only [Act.put, List.setIfInBounds_toArray, List.set_cons_zero, List.set_cons_succ, i64_w, i32_w]
            rfl
          refine take_ (i := 5) (N := some 57) (v := ?_) (a' := ?_) #[true, true, true, true, true, true, true, true, true, true, false, false] rfl rfl (by kernel_rfl) (fun _ _ _ h => h) (Or.inl ⟨by rfl, ?_⟩) hHeld ?_ ?_
          rotate_left
          · rintro w' ⟨s0, s1⟩
            go_simp
            with_reducible rfl
          rotate_left
          · simp only [Act.put, List.setIfInBounds_toArray, List.set_cons_zero, List.set_cons_succ, i64_w, i32_w]
            rfl
          refine take_ (i := 10) (N := some 62) (v := ?_) (a' := ?_) #[true, true, true, true, true, true, true, true, true, true, true, false] rfl rfl (by kernel_rfl) (fun _ _ _ h => h) (Or.inl ⟨by rfl, ?_⟩) hHeld ?_ ?_
          rotate_left
          · rintro w' ⟨s0, s1⟩
            go_simp
            with_reducible rfl
          rotate_left
          · simp only [Act.put, List.setIfInBounds_toArray, List.set_cons_zero, List.set_cons_succ, i64_w, i32_w]
            rfl
          refine one_ (i := 11) (N := some 63) #[true, true, true, true, true, true, true, true, true, true, true, true] rfl rfl (by kernel_rfl) (by decide) (fun K hK => ?_)
          refine goes_ Try.func11 (by kernel_rfl) rfl #[.pointer (some ⟨b, 0, none⟩), .int .i64 nm, .slice av bs.length cv] (by rfl) rfl rfl (by simp only [List.map_toArray, List.map_cons, List.map_nil]; rfl) ?_
          with_reducible refine (HA.out).mono ?_
          rintro e w5 ⟨rfl, hD5, hB5⟩
          refine ⟨_, rfl, ?_⟩
          try clear hHeld
          refine hK.out _ _ ⟨((hB5.cell (p := ⟨bb, _, none⟩) hbB).trans c1), ((hB5.cell (p := ⟨bb, _, none⟩) hbB).trans c3)⟩ (fun hHeld => ?_)
          clear hK K
          refine norm_ (a' := ?_) ?_ ?_
          rotate_left
          · show Act.put _ (some 63) _ = _
            simp only [Act.put, List.setIfInBounds_toArray, List.set_cons_zero, List.set_cons_succ, i64_w, i32_w]
            rfl
          try clear hHeld
          refine done_ (by kernel_rfl) ?_
          have HL5 := Lib.hid (HL.out.drew.post (Below.refl _ _) hD5 hB5)
          clear hD5 hB5 HA
          go_wp2_with fail
          go_roundw
          case rel => exact ⟨i + 1, _, _, by omega, by go_num, by omega, HL5.out, off_append HOI.out _ _⟩
          case measure => simp [intOf]; omega
        · skip
          have e0 : (kd == 0) = false := by rw [hk]; decide
          have e3 : (kd == 3) = true := by simp [hk]
          have e4 : (kd == 4) = false := by rw [hk]; decide
          have e7 : (kd == 7) = false := by rw [hk]; decide
          have HA := Lib.hid (d_rename HL.out.drew.d (by omega) (n := nm) (to := nn) n1 n2)
          go_wp2_with fail
          refine start_ (n := 12) (S := fun w' => w'.cell? ⟨bb, oo + i * 5 + 1, none⟩ = some (.int .i64 nm) ∧ w'.cell? ⟨bb, oo + i * 5 + 2, none⟩ = some (.int .i64 nn)) (ds := []) #[false, false, false, false, false, false, false, false, false, false, false, false] (by kernel_rfl) rfl rfl ⟨c1, c2⟩ (fun hHeld => ?_)
          refine pure_ (i := 0) (N := some 66) (v := ?_) (a' := ?_) #[true, false, false, false, false, false, false, false, false, false, false, false] rfl rfl (by kernel_rfl) (fun _ _ _ h => h) (Or.inl ⟨by rfl, ?_⟩) ?_ ?_
          rotate_left
          · intro w'
            go_simp
            with_reducible rfl
          rotate_left
          · simp only [Act.put, List.setIfInBounds_toArray, List.set_cons_zero, List.set_cons_succ, i64_w, i32_w]
            rfl
          refine pure_ (i := 1) (N := some 67) (v := ?_) (a' := ?_) #[true, true, false, false, false, false, false, false, false, false, false, false] rfl rfl (by kernel_rfl) (fun _ _ _ h => h) (Or.inl ⟨by rfl, ?_⟩) ?_ ?_
          rotate_left
          · intro w'
            go_simp
            with_reducible rfl
          rotate_left
          · simp only [Act.put, List.setIfInBounds_toArray, List.set_cons_zero, List.set_cons_succ, i64_w, i32_w]
            rfl
          refine pure_ (i := 2) (N := some 68) (v := ?_) (a' := ?_) #[true, true, true, false, false, false, false, false, false, false, false, false] rfl rfl (by kernel_rfl) (fun _ _ _ h => h) (Or.inl ⟨by rfl, ?_⟩) ?_ ?_
          rotate_left
          · intro w'
            go_simp
            with_reducible rfl
          rotate_left
          · simp only [Act.put, List.setIfInBounds_toArray, List.set_cons_zero, List.set_cons_succ, i64_w, i32_w]
            rfl
          refine pure_ (i := 3) (N := some 69) (v := ?_) (a' := ?_) #[true, true, true, true, false, false, false, false, false, false, false, false] rfl rfl (by kernel_rfl) (fun _ _ _ h => h) (Or.inl ⟨by rfl, ?_⟩) ?_ ?_
          rotate_left
          · intro w'
            go_simp
            with_reducible rfl
          rotate_left
          · simp only [Act.put, List.setIfInBounds_toArray, List.set_cons_zero, List.set_cons_succ, i64_w, i32_w]
            rfl
          refine pure_ (i := 4) (N := some 70) (v := ?_) (a' := ?_) #[true, true, true, true, true, false, false, false, false, false, false, false] rfl rfl (by kernel_rfl) (fun _ _ _ h => h) (Or.inl ⟨by rfl, ?_⟩) ?_ ?_
          rotate_left
          · intro w'
            go_simp
            with_reducible rfl
          rotate_left
          · simp only [Act.put, List.setIfInBounds_toArray, List.set_cons_zero, List.set_cons_succ, i64_w, i32_w]
            rfl
          refine pure_ (i := 6) (N := some 72) (v := ?_) (a' := ?_) #[true, true, true, true, true, false, true, false, false, false, false, false] rfl rfl (by kernel_rfl) (fun _ _ _ h => h) (Or.inl ⟨by rfl, ?_⟩) ?_ ?_
          rotate_left
          · intro w'
            go_simp
            with_reducible rfl
          rotate_left
          · simp only [Act.put, List.setIfInBounds_toArray, List.set_cons_zero, List.set_cons_succ, i64_w, i32_w]
            rfl
          refine pure_ (i := 7) (N := some 73) (v := ?_) (a' := ?_) #[true, true, true, true, true, false, true, true, false, false, false, false] rfl rfl (by kernel_rfl) (fun _ _ _ h => h) (Or.inl ⟨by rfl, ?_⟩) ?_ ?_
          rotate_left
          · intro w'
            go_simp
            with_reducible rfl
          rotate_left
          · simp only [Act.put, List.setIfInBounds_toArray, List.set_cons_zero, List.set_cons_succ, i64_w, i32_w]
            rfl
          refine pure_ (i := 8) (N := some 74) (v := ?_) (a' := ?_) #[true, true, true, true, true, false, true, true, true, false, false, false] rfl rfl (by kernel_rfl) (fun _ _ _ h => h) (Or.inl ⟨by rfl, ?_⟩) ?_ ?_
          rotate_left
          · intro w'
            go_simp
            with_reducible rfl
          rotate_left
          · simp only [Act.put, List.setIfInBounds_toArray, List.set_cons_zero, List.set_cons_succ, i64_w, i32_w]
            rfl
          refine pure_ (i := 9) (N := some 75) (v := ?_) (a' := ?_) #[true, true, true, true, true, false, true, true, true, true, false, false] rfl rfl (by kernel_rfl) (fun _ _ _ h => h) (Or.inl ⟨by rfl, ?_⟩) ?_ ?_
          rotate_left
          · intro w'
            go_simp
            with_reducible rfl
          rotate_left
          · simp only [Act.put, List.setIfInBounds_toArray, List.set_cons_zero, List.set_cons_succ, i64_w, i32_w]
            rfl
          refine take_ (i := 5) (N := some 71) (v := ?_) (a' := ?_) #[true, true, true, true, true, true, true, true, true, true, false, false] rfl rfl (by kernel_rfl) (fun _ _ _ h => h) (Or.inl ⟨by rfl, ?_⟩) hHeld ?_ ?_
          rotate_left
          · rintro w' ⟨s0, s1⟩
            go_simp
            with_reducible rfl
          rotate_left
          · simp only [Act.put, List.setIfInBounds_toArray, List.set_cons_zero, List.set_cons_succ, i64_w, i32_w]
            rfl
          refine take_ (i := 10) (N := some 76) (v := ?_) (a' := ?_) #[true, true, true, true, true, true, true, true, true, true, true, false] rfl rfl (by kernel_rfl) (fun _ _ _ h => h) (Or.inl ⟨by rfl, ?_⟩) hHeld ?_ ?_
          rotate_left
          · rintro w' ⟨s0, s1⟩
            go_simp
            with_reducible rfl
          rotate_left
          · simp only [Act.put, List.setIfInBounds_toArray, List.set_cons_zero, List.set_cons_succ, i64_w, i32_w]
            rfl
          refine one_ (i := 11) (N := some 77) #[true, true, true, true, true, true, true, true, true, true, true, true] rfl rfl (by kernel_rfl) (by decide) (fun K hK => ?_)
          refine goes_ Try.func19 (by kernel_rfl) rfl #[.pointer (some ⟨b, 0, none⟩), .int .i64 nm, .int .i64 nn] (by rfl) rfl rfl (by simp only [List.map_toArray, List.map_cons, List.map_nil]; rfl) ?_
          with_reducible refine (HA.out).mono ?_
          rintro e w5 ⟨rfl, hD5, hB5⟩
          refine ⟨_, rfl, ?_⟩
          try clear hHeld
          refine hK.out _ _ ⟨((hB5.cell (p := ⟨bb, _, none⟩) hbB).trans c1), ((hB5.cell (p := ⟨bb, _, none⟩) hbB).trans c2)⟩ (fun hHeld => ?_)
          clear hK K
          refine norm_ (a' := ?_) ?_ ?_
          rotate_left
          · show Act.put _ (some 77) _ = _
            simp only [Act.put, List.setIfInBounds_toArray, List.set_cons_zero, List.set_cons_succ, i64_w, i32_w]
            rfl
          try clear hHeld
          refine done_ (by kernel_rfl) ?_
          have HL5 := Lib.hid (HL.out.drew.post (Below.refl _ _) hD5 hB5)
          clear hD5 hB5 HA
          go_wp2_with fail
          go_roundw
          case rel => exact ⟨i + 1, _, _, by omega, by go_num, by omega, HL5.out, off_rename HOI.out _ _⟩
          case measure => simp [intOf]; omega
        · skip
          have e0 : (kd == 0) = false := by rw [hk]; decide
          have e3 : (kd == 3) = false := by rw [hk]; decide
          have e4 : (kd == 4) = true := by simp [hk]
          have e7 : (kd == 7) = false := by rw [hk]; decide
          have HA := Lib.hid (d_remove HL.out.d (by omega) (n := nm) n1)
          go_wp2_with (first | (go_at_call 20; refine HA.out.mono ?_; rintro e w5 ⟨rfl, hD5, hB5⟩; have HL5 := Lib.hid (HL.out.post (Below.refl _ _) hD5 hB5); clear hD5 hB5) | go_in)
          go_roundw
          case rel => exact ⟨i + 1, _, _, by omega, by go_num, by omega, HL5.out, off_remove HOI.out _⟩
          case measure => simp [intOf]; omega
        · skip
          have e0 : (kd == 0) = false := by rw [hk]; decide
          have e3 : (kd == 3) = false := by rw [hk]; decide
          have e4 : (kd == 4) = false := by rw [hk]; decide
          have e7 : (kd == 7) = true := by simp [hk]
          have HA := Lib.hid (d_crash HL.out.drew.d (Below.refl _ _) (by omega) (names := nn) (keep := ks) HRK.out (by omega) (fun h0 k hk => .inl (Nat.lt_of_lt_of_le (HKBL.out h0 k hk) hle)))
          go_wp2_with fail
          refine start_ (n := 12) (S := fun w' => w'.cell? ⟨bb, oo + i * 5 + 2, none⟩ = some (.int .i64 nn) ∧ w'.cell? ⟨bb, oo + i * 5 + 4, none⟩ = some (.slice ak ks.length ck)) (ds := []) #[false, false, false, false, false, false, false, false, false, false, false, false] (by kernel_rfl) rfl rfl ⟨c2, c4⟩ (fun hHeld => ?_)
          refine pure_ (i := 0) (N := some 89) (v := ?_) (a' := ?_) #[true, false, false, false, false, false, false, false, false, false, false, false] rfl rfl (by kernel_rfl) (fun _ _ _ h => h) (Or.inl ⟨by rfl, ?_⟩) ?_ ?_
          rotate_left
          · intro w'
            go_simp
            with_reducible rfl
          rotate_left
          · simp only [Act.put, List.setIfInBounds_toArray, List.set_cons_zero, List.set_cons_succ, i64_w, i32_w]
            rfl
          refine pure_ (i := 1) (N := some 90) (v := ?_) (a' := ?_) #[true, true, false, false, false, false, false, false, false, false, false, false] rfl rfl (by kernel_rfl) (fun _ _ _ h => h) (Or.inl ⟨by rfl, ?_⟩) ?_ ?_
          rotate_left
          · intro w'
            go_simp
            with_reducible rfl
          rotate_left
          · simp only [Act.put, List.setIfInBounds_toArray, List.set_cons_zero, List.set_cons_succ, i64_w, i32_w]
            rfl
          refine pure_ (i := 2) (N := some 91) (v := ?_) (a' := ?_) #[true, true, true, false, false, false, false, false, false, false, false, false] rfl rfl (by kernel_rfl) (fun _ _ _ h => h) (Or.inl ⟨by rfl, ?_⟩) ?_ ?_
          rotate_left
          · intro w'
            go_simp
            with_reducible rfl
          rotate_left
          · simp only [Act.put, List.setIfInBounds_toArray, List.set_cons_zero, List.set_cons_succ, i64_w, i32_w]
            rfl
          refine pure_ (i := 3) (N := some 92) (v := ?_) (a' := ?_) #[true, true, true, true, false, false, false, false, false, false, false, false] rfl rfl (by kernel_rfl) (fun _ _ _ h => h) (Or.inl ⟨by rfl, ?_⟩) ?_ ?_
          rotate_left
          · intro w'
            go_simp
            with_reducible rfl
          rotate_left
          · simp only [Act.put, List.setIfInBounds_toArray, List.set_cons_zero, List.set_cons_succ, i64_w, i32_w]
            rfl
          refine pure_ (i := 4) (N := some 93) (v := ?_) (a' := ?_) #[true, true, true, true, true, false, false, false, false, false, false, false] rfl rfl (by kernel_rfl) (fun _ _ _ h => h) (Or.inl ⟨by rfl, ?_⟩) ?_ ?_
          rotate_left
          · intro w'
            go_simp
            with_reducible rfl
          rotate_left
          · simp only [Act.put, List.setIfInBounds_toArray, List.set_cons_zero, List.set_cons_succ, i64_w, i32_w]
            rfl
          refine pure_ (i := 6) (N := some 95) (v := ?_) (a' := ?_) #[true, true, true, true, true, false, true, false, false, false, false, false] rfl rfl (by kernel_rfl) (fun _ _ _ h => h) (Or.inl ⟨by rfl, ?_⟩) ?_ ?_
          rotate_left
          · intro w'
            go_simp
            with_reducible rfl
          rotate_left
          · simp only [Act.put, List.setIfInBounds_toArray, List.set_cons_zero, List.set_cons_succ, i64_w, i32_w]
            rfl
          refine pure_ (i := 7) (N := some 96) (v := ?_) (a' := ?_) #[true, true, true, true, true, false, true, true, false, false, false, false] rfl rfl (by kernel_rfl) (fun _ _ _ h => h) (Or.inl ⟨by rfl, ?_⟩) ?_ ?_
          rotate_left
          · intro w'
            go_simp
            with_reducible rfl
          rotate_left
          · simp only [Act.put, List.setIfInBounds_toArray, List.set_cons_zero, List.set_cons_succ, i64_w, i32_w]
            rfl
          refine pure_ (i := 8) (N := some 97) (v := ?_) (a' := ?_) #[true, true, true, true, true, false, true, true, true, false, false, false] rfl rfl (by kernel_rfl) (fun _ _ _ h => h) (Or.inl ⟨by rfl, ?_⟩) ?_ ?_
          rotate_left
          · intro w'
            go_simp
            with_reducible rfl
          rotate_left
          · simp only [Act.put, List.setIfInBounds_toArray, List.set_cons_zero, List.set_cons_succ, i64_w, i32_w]
            rfl
          refine pure_ (i := 9) (N := some 98) (v := ?_) (a' := ?_) #[true, true, true, true, true, false, true, true, true, true, false, false] rfl rfl (by kernel_rfl) (fun _ _ _ h => h) (Or.inl ⟨by rfl, ?_⟩) ?_ ?_
          rotate_left
          · intro w'
            go_simp
            with_reducible rfl
          rotate_left
          · simp only [Act.put, List.setIfInBounds_toArray, List.set_cons_zero, List.set_cons_succ, i64_w, i32_w]
            rfl
          refine take_ (i := 5) (N := some 94) (v := ?_) (a' := ?_) #[true, true, true, true, true, true, true, true, true, true, false, false] rfl rfl (by kernel_rfl) (fun _ _ _ h => h) (Or.inl ⟨by rfl, ?_⟩) hHeld ?_ ?_
          rotate_left
          · rintro w' ⟨s0, s1⟩
            go_simp
            with_reducible rfl
          rotate_left
          · simp only [Act.put, List.setIfInBounds_toArray, List.set_cons_zero, List.set_cons_succ, i64_w, i32_w]
            rfl
          refine take_ (i := 10) (N := some 99) (v := ?_) (a' := ?_) #[true, true, true, true, true, true, true, true, true, true, true, false] rfl rfl (by kernel_rfl) (fun _ _ _ h => h) (Or.inl ⟨by rfl, ?_⟩) hHeld ?_ ?_
          rotate_left
          · rintro w' ⟨s0, s1⟩
            go_simp
            with_reducible rfl
          rotate_left
          · simp only [Act.put, List.setIfInBounds_toArray, List.set_cons_zero, List.set_cons_succ, i64_w, i32_w]
            rfl
          refine one_ (i := 11) (N := some 100) #[true, true, true, true, true, true, true, true, true, true, true, true] rfl rfl (by kernel_rfl) (by decide) (fun K hK => ?_)
          refine goes_ Try.func15 (by kernel_rfl) rfl #[.pointer (some ⟨b, 0, none⟩), .int .i64 nn, .slice ak ks.length ck] (by rfl) rfl rfl (by simp only [List.map_toArray, List.map_cons, List.map_nil]; rfl) ?_
          with_reducible refine (HA.out).mono ?_
          rintro e w5 ⟨rfl, hD5, hB5⟩
          refine ⟨_, rfl, ?_⟩
          try clear hHeld
          refine hK.out _ _ ⟨((hB5.cell (p := ⟨bb, _, none⟩) hbB).trans c2), ((hB5.cell (p := ⟨bb, _, none⟩) hbB).trans c4)⟩ (fun hHeld => ?_)
          clear hK K
          refine norm_ (a' := ?_) ?_ ?_
          rotate_left
          · show Act.put _ (some 100) _ = _
            simp only [Act.put, List.setIfInBounds_toArray, List.set_cons_zero, List.set_cons_succ, i64_w, i32_w]
            rfl
          try clear hHeld
          refine done_ (by kernel_rfl) ?_
          have HL5 := Lib.hid (HL.out.drew.post (Below.refl _ _) hD5 hB5)
          clear hD5 hB5 HA
          go_wp2_with fail
          go_roundw
          case rel => exact ⟨i + 1, _, _, by omega, by go_num, by omega, HL5.out, off_crash _ _ _⟩
          case measure => simp [intOf]; omega
        · skip
          have e0 : (kd == 0) = false := by simpa using hk0
          have e3 : (kd == 3) = false := by simpa using hk3
          have e4 : (kd == 4) = false := by simpa using hk4
          have e7 : (kd == 7) = false := by simpa using hk7
          have HL5 := HL
          go_wp2_with fail
          go_roundw
          case rel => exact ⟨i + 1, _, _, by omega, by go_num, by omega, HL5.out, HOI.out⟩
          case measure => simp [intOf]; omega
      · have hil : i = len := by omega
        subst hil
        have d2 : decide ((i : Int) < (i : Int)) = false := decide_eq_false (by omega)
        have HL := Lib.hid hL
        have HOI := Lib.hid hOI
        have HI := Lib.hid hL.d.inv
        clear hOI
        go_wp2_with fail
        refine (d_names hL.d).mono ?_
        rintro e w5 ⟨v5, rfl, hO5, hf5, hB5⟩
        obtain ⟨N, hNe⟩ : ∃ N, N = S.now.map (·.1) := ⟨_, rfl⟩
        rw [show S.names = N from hNe.symm] at hO5
        have hNl : N.length = S.now.length := by rw [hNe, List.length_map]
        have hN1 : N.length ≤ 1000 := by have := HL.out.d.small.nowl; have := HL.out.d.small.top; omega
        have hL5 := HL.out.below hB5
        have HL5 := Lib.hid hL5
        have HO5 := Lib.hid hO5
        have HNE := Lib.hid hNe
        have hul := hL5.d.used_le
        have hul : usedD S.files S.now ≤ 300000000 := hul
        obtain ⟨a5, c5, rfl⟩ := own_shape hO5
        have HNL := Lib.hid hNl
        clear hL hL5 hO5 hNe hNl hB5 hf5 d2
        go_wp2_with fail
        go_loopw [12, 13, 14] (fun nv tv iv wq => ∃ j : Nat, nv = .int .i64 (usedD S.files (S.now.take j)) ∧ tv = .bool (thereB (N.take j) name) ∧ iv = .int .i64 j ∧ j ≤ N.length ∧ Below w5.heap.size w5 wq) (fun _ _ iv _ => N.length - (intOf iv).toNat)
        case atStart => exact ⟨0, rfl, rfl, rfl, by omega, Below.refl _ _⟩
        case round =>
          obtain ⟨j, rfl, rfl, rfl, hj, hBq⟩ := hrel
          by_cases hjl : j < N.length
          · have d3 : decide ((j : Int) < (N.length : Int)) = true := decide_eq_true (by omega)
            obtain ⟨x, hx⟩ : ∃ x, S.now[j]? = some x := ⟨_, List.getElem?_eq_getElem (by have := HNL.out; omega)⟩
            obtain ⟨g5, c5', e5, -, -⟩ := own_open HO5.out (by omega)
            simp only [Value.slice.injEq] at e5
            obtain ⟨rfl, -, rfl⟩ := e5
            have hOq := own_keeps HO5.out (Keeps.ofBelow (F := fun _ => False) hBq) (fun _ _ h => h)
            have hxN : N.getD j 0 = x.1 := by rw [List.getD_eq_getElem?_getD, HNE.out, List.getElem?_map, hx]; rfl
            have cN : wr.cell? ⟨g5, j, none⟩ = some (.int .i64 x.1) := by
              rw [World.ownsRow.cellAt hOq j (by omega), ints_get _ _ hjl, hxN]
            have hxm := List.mem_of_getElem? hx
            have HLq := Lib.hid (HL5.out.below hBq)
            have hxw : (Lit.int .i64 x.1).wf = true := by obtain ⟨_, fp, R, hD⟩ := HLq.out.d; exact ownD_wf hD.parts.now hxm
            have hrd := d_read HLq.out.d (n := x.1) hxw
            unfold ReadP at hrd
            rw [read_at HOI.out HI.out hxm] at hrd
            have hus := usedD_succ S.files hx
            have hut := usedD_take_le S.files S.now (j + 1)
            have hth := thereB_succ N name hjl
            rw [hxN] at hth
            have HRD := Lib.hid hrd
            have HUS := Lib.hid hus
            have HTH := Lib.hid hth
            have HOQ := Lib.hid hOq
            have HBQ := Lib.hid hBq
            have j0 : (0 : Int) ≤ (j : Int) := by omega
            have j1 : (j : Int) < (N.length : Int) := by omega
            have wj : IntKind.i64.wrap ((j : Int) + 1) = (j : Int) + 1 := IntWalk.i64_in _ (by omega)
            clear hrd hOq hth hBq
            generalize hv1 : usedD S.files (S.now.take (j + 1)) = us1 at *
            generalize usedD S.files (S.now.take j) = us0 at *
            generalize hv2 : thereB (N.take (j + 1)) name = th1 at *
            have HV1 := Lib.hid hv1
            have HV2 := Lib.hid hv2
            clear hv1 hv2
            generalize thereB (N.take j) name = th0 at *
            generalize hbe : (S.files x.2).b = xb at *
            have wu : IntKind.i64.wrap ((us0 : Int) + (xb.length : Int)) = (us1 : Int) := by rw [show (us0 : Int) + (xb.length : Int) = (us1 : Int) by omega]; exact IntWalk.i64_in _ (by omega)
            clear hus hxN hbe
            go_wp2_with (first | (go_at_call 16; refine HRD.out.mono ?_; rintro e w6 ⟨v6, rfl, ho6, hf6, hb6⟩; obtain ⟨a6, c6, rfl⟩ := own_shape ho6; have HB6 := Lib.hid (HBQ.out.trans (hb6.mono HBQ.out.size)); have hO6 := own_keeps HOQ.out (Keeps.ofBelow (F := fun _ => False) hb6) (fun _ _ h => h); have HO6 := Lib.hid hO6; clear ho6 hf6 hb6 hO6) | go_in)
            have cJ : w6.cell? ⟨g5, j, none⟩ = some (.int .i64 x.1) := by
              rw [World.ownsRow.cellAt HO6.out j (by omega), ints_get _ _ hjl, List.getD_eq_getElem?_getD, HNE.out, List.getElem?_map, hx]; rfl
            clear cN
            by_cases hj0 : j = 0
            · have dj : decide ((0 : Int) < (j : Int)) = false := decide_eq_false (by omega)
              have dj2 : decide (0 < j) = false := decide_eq_false (by omega)
              clear hj0
              refine start_ (n := 18) (S := fun w' => w'.cell? ⟨g5, j, none⟩ = some (.int .i64 x.1)) (ds := []) #[false, false, false, false, false, false, false, false, false, false, false, false, false, false, false, false, false, false] (by kernel_rfl) rfl rfl (cJ) (fun hHeld => ?_)
              refine pure_ (i := 0) (N := some 118) (v := ?_) (a' := ?_) #[true, false, false, false, false, false, false, false, false, false, false, false, false, false, false, false, false, false] rfl rfl (by kernel_rfl) (fun _ _ _ h => h) (Or.inl ⟨by rfl, ?_⟩) ?_ ?_
              rotate_left
              · intro w'
                go_simp
                with_reducible rfl
              rotate_left
              · simp only [Act.put, List.setIfInBounds_toArray, List.set_cons_zero, List.set_cons_succ, i64_w, i32_w]
                rfl
              refine pure_ (i := 1) (N := some 119) (v := ?_) (a' := ?_) #[true, true, false, false, false, false, false, false, false, false, false, false, false, false, false, false, false, false] rfl rfl (by kernel_rfl) (fun _ _ _ h => h) (Or.inl ⟨by rfl, ?_⟩) ?_ ?_
              rotate_left
              · intro w'
                go_simp
                with_reducible rfl
              rotate_left
              · simp only [Act.put, List.setIfInBounds_toArray, List.set_cons_zero, List.set_cons_succ, i64_w, i32_w]
                rfl
              refine pure_ (i := 2) (N := some 120) (v := ?_) (a' := ?_) #[true, true, true, false, false, false, false, false, false, false, false, false, false, false, false, false, false, false] rfl rfl (by kernel_rfl) (fun _ _ _ h => h) (Or.inl ⟨by rfl, ?_⟩) ?_ ?_
              rotate_left
              · intro w'
                go_simp
                with_reducible rfl
              rotate_left
              · simp only [Act.put, List.setIfInBounds_toArray, List.set_cons_zero, List.set_cons_succ, i64_w, i32_w]
                rfl
              refine pure_ (i := 3) (N := some 121) (v := ?_) (a' := ?_) #[true, true, true, true, false, false, false, false, false, false, false, false, false, false, false, false, false, false] rfl rfl (by kernel_rfl) (fun _ _ _ h => h) (Or.inl ⟨by rfl, ?_⟩) ?_ ?_
              rotate_left
              · intro w'
                go_simp
                with_reducible rfl
              rotate_left
              · simp only [Act.put, List.setIfInBounds_toArray, List.set_cons_zero, List.set_cons_succ, i64_w, i32_w]
                rfl
              refine pure_ (i := 4) (N := some 122) (v := ?_) (a' := ?_) #[true, true, true, true, true, false, false, false, false, false, false, false, false, false, false, false, false, false] rfl rfl (by kernel_rfl) (fun _ _ _ h => h) (Or.inl ⟨by rfl, ?_⟩) ?_ ?_
              rotate_left
              · intro w'
                go_simp
                with_reducible rfl
              rotate_left
              · simp only [Act.put, List.setIfInBounds_toArray, List.set_cons_zero, List.set_cons_succ, i64_w, i32_w]
                rfl
              refine pure_ (i := 5) (N := some 123) (v := ?_) (a' := ?_) #[true, true, true, true, true, true, false, false, false, false, false, false, false, false, false, false, false, false] rfl rfl (by kernel_rfl) (fun _ _ _ h => h) (Or.inl ⟨by rfl, ?_⟩) ?_ ?_
              rotate_left
              · intro w'
                go_simp
                with_reducible rfl
              rotate_left
              · simp only [Act.put, List.setIfInBounds_toArray, List.set_cons_zero, List.set_cons_succ, i64_w, i32_w]
                rfl
              refine pure_ (i := 6) (N := some 124) (v := undef) (a' := ?_) #[true, true, true, true, true, true, true, false, false, false, false, false, false, false, false, false, false, false] rfl rfl (by kernel_rfl) (fun _ _ _ h => h) (Or.inr ⟨by rfl, rfl⟩) ?_ ?_
              rotate_left
              · simp only [Act.put, List.setIfInBounds_toArray, List.set_cons_zero, List.set_cons_succ, i64_w, i32_w]
                rfl
              refine pure_ (i := 7) (N := some 125) (v := undef) (a' := ?_) #[true, true, true, true, true, true, true, true, false, false, false, false, false, false, false, false, false, false] rfl rfl (by kernel_rfl) (fun _ _ _ h => h) (Or.inr ⟨by rfl, rfl⟩) ?_ ?_
              rotate_left
              · simp only [Act.put, List.setIfInBounds_toArray, List.set_cons_zero, List.set_cons_succ, i64_w, i32_w]
                rfl
              refine pure_ (i := 8) (N := some 126) (v := undef) (a' := ?_) #[true, true, true, true, true, true, true, true, true, false, false, false, false, false, false, false, false, false] rfl rfl (by kernel_rfl) (fun _ _ _ h => h) (Or.inr ⟨by rfl, rfl⟩) ?_ ?_
              rotate_left
              · simp only [Act.put, List.setIfInBounds_toArray, List.set_cons_zero, List.set_cons_succ, i64_w, i32_w]
                rfl
              refine pure_ (i := 9) (N := some 127) (v := undef) (a' := ?_) #[true, true, true, true, true, true, true, true, true, true, false, false, false, false, false, false, false, false] rfl rfl (by kernel_rfl) (fun _ _ _ h => h) (Or.inr ⟨by rfl, rfl⟩) ?_ ?_
              rotate_left
              · simp only [Act.put, List.setIfInBounds_toArray, List.set_cons_zero, List.set_cons_succ, i64_w, i32_w]
                rfl
              refine pure_ (i := 10) (N := some 128) (v := undef) (a' := ?_) #[true, true, true, true, true, true, true, true, true, true, true, false, false, false, false, false, false, false] rfl rfl (by kernel_rfl) (fun _ _ _ h => h) (Or.inr ⟨by rfl, rfl⟩) ?_ ?_
              rotate_left
              · simp only [Act.put, List.setIfInBounds_toArray, List.set_cons_zero, List.set_cons_succ, i64_w, i32_w]
                rfl
              refine pure_ (i := 11) (N := some 129) (v := undef) (a' := ?_) #[true, true, true, true, true, true, true, true, true, true, true, true, false, false, false, false, false, false] rfl rfl (by kernel_rfl) (fun _ _ _ h => h) (Or.inr ⟨by rfl, rfl⟩) ?_ ?_
              rotate_left
              · simp only [Act.put, List.setIfInBounds_toArray, List.set_cons_zero, List.set_cons_succ, i64_w, i32_w]
                rfl
              refine pure_ (i := 12) (N := some 130) (v := undef) (a' := ?_) #[true, true, true, true, true, true, true, true, true, true, true, true, true, false, false, false, false, false] rfl rfl (by kernel_rfl) (fun _ _ _ h => h) (Or.inr ⟨by rfl, rfl⟩) ?_ ?_
              rotate_left
              · simp only [Act.put, List.setIfInBounds_toArray, List.set_cons_zero, List.set_cons_succ, i64_w, i32_w]
                rfl
              refine pure_ (i := 13) (N := some 131) (v := undef) (a' := ?_) #[true, true, true, true, true, true, true, true, true, true, true, true, true, true, false, false, false, false] rfl rfl (by kernel_rfl) (fun _ _ _ h => h) (Or.inr ⟨by rfl, rfl⟩) ?_ ?_
              rotate_left
              · simp only [Act.put, List.setIfInBounds_toArray, List.set_cons_zero, List.set_cons_succ, i64_w, i32_w]
                rfl
              refine pure_ (i := 14) (N := some 132) (v := undef) (a' := ?_) #[true, true, true, true, true, true, true, true, true, true, true, true, true, true, true, false, false, false] rfl rfl (by kernel_rfl) (fun _ _ _ h => h) (Or.inr ⟨by rfl, rfl⟩) ?_ ?_
              rotate_left
              · simp only [Act.put, List.setIfInBounds_toArray, List.set_cons_zero, List.set_cons_succ, i64_w, i32_w]
                rfl
              refine pure_ (i := 15) (N := some 133) (v := undef) (a' := ?_) #[true, true, true, true, true, true, true, true, true, true, true, true, true, true, true, true, false, false] rfl rfl (by kernel_rfl) (fun _ _ _ h => h) (Or.inr ⟨by rfl, rfl⟩) ?_ ?_
              rotate_left
              · simp only [Act.put, List.setIfInBounds_toArray, List.set_cons_zero, List.set_cons_succ, i64_w, i32_w]
                rfl
              refine pure_ (i := 16) (N := some 134) (v := ?_) (a' := ?_) #[true, true, true, true, true, true, true, true, true, true, true, true, true, true, true, true, true, false] rfl rfl (by kernel_rfl) (fun _ _ _ h => h) (Or.inl ⟨by rfl, ?_⟩) ?_ ?_
              rotate_left
              · intro w'
                go_simp
                with_reducible rfl
              rotate_left
              · simp only [Act.put, List.setIfInBounds_toArray, List.set_cons_zero, List.set_cons_succ, i64_w, i32_w]
                rfl
              refine pure_ (i := 17) (N := some 135) (v := ?_) (a' := ?_) #[true, true, true, true, true, true, true, true, true, true, true, true, true, true, true, true, true, true] rfl rfl (by kernel_rfl) (fun _ _ _ h => h) (Or.inl ⟨by rfl, ?_⟩) ?_ ?_
              rotate_left
              · intro w'
                go_simp
                with_reducible rfl
              rotate_left
              · simp only [Act.put, List.setIfInBounds_toArray, List.set_cons_zero, List.set_cons_succ, i64_w, i32_w]
                rfl
              try clear hHeld
              refine done_ (by kernel_rfl) ?_
              cases hth : th0 with
              | true =>
                have q1 : th1 = true := by rw [HTH.out, hth]; rfl
                clear hth
                go_wp2_with fail
                go_roundw
                case rel => exact ⟨j + 1, by rw [HV1.out], by rw [HV2.out, q1], by go_num, by omega, HB6.out.drew⟩
                case measure => simp [intOf]; omega
              | false =>
                have q1 : th1 = (x.1 == name) := by rw [HTH.out, hth]; rfl
                clear hth
                have cJ2 : w6.drew.cell? ⟨g5, j, none⟩ = some (.int .i64 x.1) := cJ
                go_wp2_with fail
                go_roundw
                case rel => exact ⟨j + 1, by rw [HV1.out], by rw [HV2.out, q1], by go_num, by omega, HB6.out.drew⟩
                case measure => simp [intOf]; omega
            · obtain ⟨jm, hjm⟩ : ∃ jm, j = jm + 1 := ⟨j - 1, by omega⟩
              obtain ⟨y, hy⟩ : ∃ y, S.now[jm]? = some y := ⟨_, List.getElem?_eq_getElem (by have := HNL.out; omega)⟩
              have hyx := ris_get HI.out.now hy (hjm ▸ hx)
              have cM : w6.cell? ⟨g5, jm, none⟩ = some (.int .i64 y.1) := by
                rw [World.ownsRow.cellAt HO6.out jm (by omega), ints_get _ _ (by omega), List.getD_eq_getElem?_getD, HNE.out, List.getElem?_map, hy]; rfl
              have dj : decide ((0 : Int) < (j : Int)) = true := decide_eq_true (by omega)
              have dj2 : decide (0 < j) = true := decide_eq_true (by omega)
              have wm : IntKind.i64.wrap ((j : Int) - 1) = (jm : Int) := by rw [show (j : Int) - 1 = (jm : Int) by omega]; exact IntWalk.i64_in _ (by omega)
              have m0 : (0 : Int) ≤ (jm : Int) := by omega
              have m1 : (jm : Int) < (N.length : Int) := by omega
              have dge : decide (x.1 ≤ y.1) = false := decide_eq_false (by omega)
              have dge2 : decide (y.1 ≥ x.1) = false := decide_eq_false (by omega)
              clear hj0 hjm hy hyx
              refine start_ (n := 18) (S := fun w' => w'.cell? ⟨g5, j, none⟩ = some (.int .i64 x.1) ∧ w'.cell? ⟨g5, jm, none⟩ = some (.int .i64 y.1)) (ds := []) #[false, false, false, false, false, false, false, false, false, false, false, false, false, false, false, false, false, false] (by kernel_rfl) rfl rfl ⟨cJ, cM⟩ (fun hHeld => ?_)
              refine pure_ (i := 0) (N := some 118) (v := ?_) (a' := ?_) #[true, false, false, false, false, false, false, false, false, false, false, false, false, false, false, false, false, false] rfl rfl (by kernel_rfl) (fun _ _ _ h => h) (Or.inl ⟨by rfl, ?_⟩) ?_ ?_
              rotate_left
              · intro w'
                go_simp
                with_reducible rfl
              rotate_left
              · simp only [Act.put, List.setIfInBounds_toArray, List.set_cons_zero, List.set_cons_succ, i64_w, i32_w]
                rfl
              refine pure_ (i := 1) (N := some 119) (v := ?_) (a' := ?_) #[true, true, false, false, false, false, false, false, false, false, false, false, false, false, false, false, false, false] rfl rfl (by kernel_rfl) (fun _ _ _ h => h) (Or.inl ⟨by rfl, ?_⟩) ?_ ?_
              rotate_left
              · intro w'
                go_simp
                with_reducible rfl
              rotate_left
              · simp only [Act.put, List.setIfInBounds_toArray, List.set_cons_zero, List.set_cons_succ, i64_w, i32_w]
                rfl
              refine pure_ (i := 2) (N := some 120) (v := ?_) (a' := ?_) #[true, true, true, false, false, false, false, false, false, false, false, false, false, false, false, false, false, false] rfl rfl (by kernel_rfl) (fun _ _ _ h => h) (Or.inl ⟨by rfl, ?_⟩) ?_ ?_
              rotate_left
              · intro w'
                go_simp
                with_reducible rfl
              rotate_left
              · simp only [Act.put, List.setIfInBounds_toArray, List.set_cons_zero, List.set_cons_succ, i64_w, i32_w]
                rfl
              refine pure_ (i := 3) (N := some 121) (v := ?_) (a' := ?_) #[true, true, true, true, false, false, false, false, false, false, false, false, false, false, false, false, false, false] rfl rfl (by kernel_rfl) (fun _ _ _ h => h) (Or.inl ⟨by rfl, ?_⟩) ?_ ?_
              rotate_left
              · intro w'
                go_simp
                with_reducible rfl
              rotate_left
              · simp only [Act.put, List.setIfInBounds_toArray, List.set_cons_zero, List.set_cons_succ, i64_w, i32_w]
                rfl
              refine pure_ (i := 4) (N := some 122) (v := ?_) (a' := ?_) #[true, true, true, true, true, false, false, false, false, false, false, false, false, false, false, false, false, false] rfl rfl (by kernel_rfl) (fun _ _ _ h => h) (Or.inl ⟨by rfl, ?_⟩) ?_ ?_
              rotate_left
              · intro w'
                go_simp
                with_reducible rfl
              rotate_left
              · simp only [Act.put, List.setIfInBounds_toArray, List.set_cons_zero, List.set_cons_succ, i64_w, i32_w]
                rfl
              refine pure_ (i := 5) (N := some 123) (v := ?_) (a' := ?_) #[true, true, true, true, true, true, false, false, false, false, false, false, false, false, false, false, false, false] rfl rfl (by kernel_rfl) (fun _ _ _ h => h) (Or.inl ⟨by rfl, ?_⟩) ?_ ?_
              rotate_left
              · intro w'
                go_simp
                with_reducible rfl
              rotate_left
              · simp only [Act.put, List.setIfInBounds_toArray, List.set_cons_zero, List.set_cons_succ, i64_w, i32_w]
                rfl
              refine pure_ (i := 6) (N := some 124) (v := ?_) (a' := ?_) #[true, true, true, true, true, true, true, false, false, false, false, false, false, false, false, false, false, false] rfl rfl (by kernel_rfl) (fun _ _ _ h => h) (Or.inl ⟨by rfl, ?_⟩) ?_ ?_
              rotate_left
              · intro w'
                go_simp
                with_reducible rfl
              rotate_left
              · simp only [Act.put, List.setIfInBounds_toArray, List.set_cons_zero, List.set_cons_succ, i64_w, i32_w]
                rfl
              refine pure_ (i := 7) (N := some 125) (v := ?_) (a' := ?_) #[true, true, true, true, true, true, true, true, false, false, false, false, false, false, false, false, false, false] rfl rfl (by kernel_rfl) (fun _ _ _ h => h) (Or.inl ⟨by rfl, ?_⟩) ?_ ?_
              rotate_left
              · intro w'
                go_simp
                with_reducible rfl
              rotate_left
              · simp only [Act.put, List.setIfInBounds_toArray, List.set_cons_zero, List.set_cons_succ, i64_w, i32_w]
                rfl
              refine pure_ (i := 8) (N := some 126) (v := ?_) (a' := ?_) #[true, true, true, true, true, true, true, true, true, false, false, false, false, false, false, false, false, false] rfl rfl (by kernel_rfl) (fun _ _ _ h => h) (Or.inl ⟨by rfl, ?_⟩) ?_ ?_
              rotate_left
              · intro w'
                go_simp
                with_reducible rfl
              rotate_left
              · simp only [Act.put, List.setIfInBounds_toArray, List.set_cons_zero, List.set_cons_succ, i64_w, i32_w]
                rfl
              refine pure_ (i := 9) (N := some 127) (v := ?_) (a' := ?_) #[true, true, true, true, true, true, true, true, true, true, false, false, false, false, false, false, false, false] rfl rfl (by kernel_rfl) (fun _ _ _ h => h) (Or.inl ⟨by rfl, ?_⟩) ?_ ?_
              rotate_left
              · intro w'
                go_simp
                with_reducible rfl
              rotate_left
              · simp only [Act.put, List.setIfInBounds_toArray, List.set_cons_zero, List.set_cons_succ, i64_w, i32_w]
                rfl
              refine pure_ (i := 11) (N := some 129) (v := ?_) (a' := ?_) #[true, true, true, true, true, true, true, true, true, true, false, true, false, false, false, false, false, false] rfl rfl (by kernel_rfl) (fun _ _ _ h => h) (Or.inl ⟨by rfl, ?_⟩) ?_ ?_
              rotate_left
              · intro w'
                go_simp
                with_reducible rfl
              rotate_left
              · simp only [Act.put, List.setIfInBounds_toArray, List.set_cons_zero, List.set_cons_succ, i64_w, i32_w]
                rfl
              refine pure_ (i := 12) (N := some 130) (v := ?_) (a' := ?_) #[true, true, true, true, true, true, true, true, true, true, false, true, true, false, false, false, false, false] rfl rfl (by kernel_rfl) (fun _ _ _ h => h) (Or.inl ⟨by rfl, ?_⟩) ?_ ?_
              rotate_left
              · intro w'
                go_simp
                with_reducible rfl
              rotate_left
              · simp only [Act.put, List.setIfInBounds_toArray, List.set_cons_zero, List.set_cons_succ, i64_w, i32_w]
                rfl
              refine pure_ (i := 13) (N := some 131) (v := ?_) (a' := ?_) #[true, true, true, true, true, true, true, true, true, true, false, true, true, true, false, false, false, false] rfl rfl (by kernel_rfl) (fun _ _ _ h => h) (Or.inl ⟨by rfl, ?_⟩) ?_ ?_
              rotate_left
              · intro w'
                go_simp
                with_reducible rfl
              rotate_left
              · simp only [Act.put, List.setIfInBounds_toArray, List.set_cons_zero, List.set_cons_succ, i64_w, i32_w]
                rfl
              refine take_ (i := 10) (N := some 128) (v := ?_) (a' := ?_) #[true, true, true, true, true, true, true, true, true, true, true, true, true, true, false, false, false, false] rfl rfl (by kernel_rfl) (fun _ _ _ h => h) (Or.inl ⟨by rfl, ?_⟩) hHeld ?_ ?_
              rotate_left
              · rintro w' ⟨s0, s1⟩
                go_simp
                with_reducible rfl
              rotate_left
              · simp only [Act.put, List.setIfInBounds_toArray, List.set_cons_zero, List.set_cons_succ, i64_w, i32_w]
                rfl
              refine take_ (i := 14) (N := some 132) (v := ?_) (a' := ?_) #[true, true, true, true, true, true, true, true, true, true, true, true, true, true, true, false, false, false] rfl rfl (by kernel_rfl) (fun _ _ _ h => h) (Or.inl ⟨by rfl, ?_⟩) hHeld ?_ ?_
              rotate_left
              · rintro w' ⟨s0, s1⟩
                go_simp
                with_reducible rfl
              rotate_left
              · simp only [Act.put, List.setIfInBounds_toArray, List.set_cons_zero, List.set_cons_succ, i64_w, i32_w]
                rfl
              refine pure_ (i := 15) (N := some 133) (v := ?_) (a' := ?_) #[true, true, true, true, true, true, true, true, true, true, true, true, true, true, true, true, false, false] rfl rfl (by kernel_rfl) (fun _ _ _ h => h) (Or.inl ⟨by rfl, ?_⟩) ?_ ?_
              rotate_left
              · intro w'
                go_simp
                with_reducible rfl
              rotate_left
              · simp only [Act.put, List.setIfInBounds_toArray, List.set_cons_zero, List.set_cons_succ, i64_w, i32_w]
                rfl
              refine pure_ (i := 16) (N := some 134) (v := ?_) (a' := ?_) #[true, true, true, true, true, true, true, true, true, true, true, true, true, true, true, true, true, false] rfl rfl (by kernel_rfl) (fun _ _ _ h => h) (Or.inl ⟨by rfl, ?_⟩) ?_ ?_
              rotate_left
              · intro w'
                go_simp
                with_reducible rfl
              rotate_left
              · simp only [Act.put, List.setIfInBounds_toArray, List.set_cons_zero, List.set_cons_succ, i64_w, i32_w]
                rfl
              refine pure_ (i := 17) (N := some 135) (v := ?_) (a' := ?_) #[true, true, true, true, true, true, true, true, true, true, true, true, true, true, true, true, true, true] rfl rfl (by kernel_rfl) (fun _ _ _ h => h) (Or.inl ⟨by rfl, ?_⟩) ?_ ?_
              rotate_left
              · intro w'
                go_simp
                with_reducible rfl
              rotate_left
              · simp only [Act.put, List.setIfInBounds_toArray, List.set_cons_zero, List.set_cons_succ, i64_w, i32_w]
                rfl
              try clear hHeld
              refine done_ (by kernel_rfl) ?_
              cases hth : th0 with
              | true =>
                have q1 : th1 = true := by rw [HTH.out, hth]; rfl
                clear hth
                go_wp2_with fail
                go_roundw
                case rel => exact ⟨j + 1, by rw [HV1.out], by rw [HV2.out, q1], by go_num, by omega, HB6.out.drew⟩
                case measure => simp [intOf]; omega
              | false =>
                have q1 : th1 = (x.1 == name) := by rw [HTH.out, hth]; rfl
                clear hth
                have cJ2 : w6.drew.cell? ⟨g5, j, none⟩ = some (.int .i64 x.1) := cJ
                go_wp2_with fail
                go_roundw
                case rel => exact ⟨j + 1, by rw [HV1.out], by rw [HV2.out, q1], by go_num, by omega, HB6.out.drew⟩
                case measure => simp [intOf]; omega
          · have hjn : j = N.length := by omega
            subst hjn
            have d3 : decide ((N.length : Int) < (N.length : Int)) = false := decide_eq_false (by omega)
            have htk : S.now.take N.length = S.now := List.take_of_length_le (by rw [HNL.out]; exact Nat.le_refl _)
            have htN : N.take N.length = N := List.take_of_length_le (Nat.le_refl _)
            rw [htk, htN]
            have HLq := Lib.hid (HL5.out.below hBq)
            have hrd := d_read HLq.out.d (n := name) hname
            have hta : thereB N name = decide (atD S.now name ≠ none) := by rw [HNE.out]; exact thereB_all HI.out.now name
            have hrw : (S.read name).2 = if atD S.now name = none then 8 else 0 := by
              rw [← off_why HOI.out name]
              unfold FS.read
              split
              · rename_i h0; exact h0.symm
              · rfl
            unfold ReadP at hrd
            have HU : Hid (∀ W {m' : Nat}, Disk B W b m' S → Calls Try.prog 18 #[.pointer (some ⟨b, 0, none⟩)] W fun e w' => e = .returned (.int .i64 (usedD S.files S.now)) ∧ Below W.heap.size W w') := Lib.hid fun W _ hd => d_used hd
            rw [hta]
            by_cases ha : atD S.now name = none
            · rw [hrw, if_pos ha] at hrd
              have q1 : decide (atD S.now name ≠ none) = false := decide_eq_false (fun h => h ha)
              rw [q1]
              have HRD := Lib.hid hrd
              clear hrd hrw hta q1 ha htk htN hBq
              go_wp2_with (first | (go_at_call 16; refine HRD.out.mono ?_; rintro e w6 ⟨v6, rfl, ho6, hf6, hb6⟩; have HL6 := Lib.hid (HLq.out.below hb6); clear ho6 hf6 hb6) | (go_at_call 18; refine (HU.out _ HL6.out.d).mono ?_; rintro e w7 ⟨rfl, hb7⟩; have HL7 := Lib.hid (HL6.out.below hb7); clear hb7) | go_in)
              go_ret
              exact ⟨rfl, HL7.out.bel⟩
            · rw [hrw, if_neg ha] at hrd
              have q1 : decide (atD S.now name ≠ none) = true := decide_eq_true ha
              rw [q1]
              have HRD := Lib.hid hrd
              clear hrd hrw hta q1 ha htk htN hBq
              go_wp2_with (first | (go_at_call 16; refine HRD.out.mono ?_; rintro e w6 ⟨v6, rfl, ho6, hf6, hb6⟩; have HL6 := Lib.hid (HLq.out.below hb6); clear ho6 hf6 hb6) | (go_at_call 18; refine (HU.out _ HL6.out.d).mono ?_; rintro e w7 ⟨rfl, hb7⟩; have HL7 := Lib.hid (HL6.out.below hb7); clear hb7) | go_in)
              go_ret
              exact ⟨rfl, HL7.out.bel⟩
end Go.Proofs.Ytpckjinlopmbcaa
