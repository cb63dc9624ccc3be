/-
  The document's disk: Sync, Remove, Rename, SyncDir, Cut.
-/
import Derived.Test.YtpckjinlopmbcaaFrX
namespace Go.Proofs.Ytpckjinlopmbcaa
set_option linter.unusedVariables false
set_option maxRecDepth 100000
set_option linter.unusedSimpArgs false
open Go.RowKit Go.Maps
open Go.Proofs.YtpckjinlopmbcaaW.PrintLast
theorem infoCh : (Try.prog.info? 87).map (fun i => (i.zero, i.size, i.bytes)) = some (some (.agg #[.int .i64 0, .int .i64 0, .int .i64 0]), 3, 24) := by kernel_rfl
/-- A change more behind a row of changes. -/
theorem wpList_capp {w : World} {ops : Array Oper} {rest : List Oper} {o : Oper} {a : Act} {Q : Exit → Act → World → Prop} (hgd : o.guard = none) (s x : Operand)
    (ho : o.op = .call { callee := .builtin .append, args := #[s, x], argTypes := #[53, 53] }) (v : Value) (l : List Chg) (hs : a.eval s = v) (hown : Own w 87 3 v l.length (chC l)) (y : Chg) (g c : Nat) (hx : a.eval x = .slice (some ⟨g, 0, none⟩) 1 c) {cs : Array Value}
    (hB : Blk w g cs 87) (hcs : cs.toList = chV y) (hl : l.length ≤ 1099511627776)
    (h : ∀ v' w', Own w' 87 3 v' (l.length + 1) (chC (l ++ [y])) → w.grownBy w' v.ownBlock → (∀ k, v'.ownBlock = some k → v.ownBlock = some k ∨ w.heap.size ≤ k) → wpList Try.prog ops Q rest (a.put o.dst v') w') : wpList Try.prog ops Q (o :: rest) a w := by
  obtain ⟨i0, hi, hz0, hz1, hz2⟩ := info_parts infoCh
  refine wpList_append_own_at w hgd s x 53 ho 0 87 i0 (.agg #[.int .i64 0, .int .i64 0, .int .i64 0]) 3 24 Try.underlying53 hi hz0 hz1 hz2 rfl (by decide) v l.length (chC l) hs hown ⟨g, 0, none⟩ 1 c (chV y) hx (by rw [chV_length]) (by have := hB.news; rw [hcs] at this; exact this) (by intro u hu; cases y <;> simp [chV] at hu <;> rcases hu with rfl | rfl | rfl <;> rfl) (by simp only [maxLen]; omega) (by omega) (Nat.zero_le _) ?_
  intro v' w' h1 h2 h3 h4
  refine h v' w' ?_ h2 (fun k hk => ?_)
  · rw [chC_append]; simpa [chC] using h1
  · rcases h4 with e | e
    · exact .inl (e ▸ hk)
    · rw [e] at hk; exact .inr (by have := Option.some.inj hk; omega)
section
variable {w w' W : World} {fp fp' : Nat → Prop} {R R' : RRef} {S : FS} {base br m : Nat}
theorem findR_some {n : Int} {f : Nat} (h : atD S.now n = some f) : findR S n = f := by unfold findR; rw [h]
theorem findR_none {n : Int} (h : atD S.now n = none) : findR S n = -1 := by unfold findR; rw [h]
theorem why_some (ho : S.out = false) {n : Int} {f : Nat} (h : atD S.now n = some f) : S.why n = 0 := by unfold FS.why; rw [if_neg (by rw [ho]; simp), if_neg (by rw [h]; simp)]
theorem why_none (ho : S.out = false) {n : Int} (h : atD S.now n = none) : S.why n = 8 := by unfold FS.why; rw [if_neg (by rw [ho]; simp), if_pos h]
set_option maxHeartbeats 1600000 in
theorem r_sync (h : RRep w base fp br R S) (hI : DocI S) (hs : Small S m) (hw0 : base ≤ w.heap.size) (n : Int) : Calls Try.prog 43 #[.pointer (some ⟨br, 0, none⟩), .int .i64 n] w (RPost w base fp br (S.sync n).1 (.int .i64 (S.sync n).2)) := by
  have c4 : w.cell? ⟨br, 4, none⟩ = some (.bool S.out) := h.blk.cell 4
  have HH := Lib.hid h
  have HF := Lib.hid (r_find h hI n)
  cases ho : S.out with
  | true =>
    rw [ho] at c4
    rw [out_sync ho]
    clear h hI
    go_enter Try.func43, Try.ntmps43
    go_wp2
    go_ret
    exact HH.out.still (Below.refl _ _)
  | false =>
    rw [ho] at c4
    cases ha : atD S.now n with
    | none =>
      have e2 : S.sync n = (S, 8) := by unfold FS.sync; rw [why_none ho ha, if_neg (by decide)]
      rw [e2]
      rw [findR_none ha] at HF
      clear h hI e2
      go_enter Try.func43, Try.ntmps43
      go_wp2_with (first | (go_at_call 55; refine HF.out.mono ?_; rintro e w5 ⟨rfl, hb5⟩) | go_in)
      go_ret
      exact HH.out.still hb5
    | some f =>
      have e2 : S.sync n = ((S.setF f ⟨(S.files f).b, (S.files f).b.length⟩).did, 0) := by unfold FS.sync FS.fid; rw [if_pos (why_some ho ha), ha]; rfl
      rw [e2]
      rw [findR_some ha] at HF
      have hf : f < S.many := hI.inv.lt _ (.inl (atD_some ha))
      have hml := hI.ml
      have hfl := hs.len f
      have HS := Lib.hid (hs.setF f ⟨(S.files f).b, (S.files f).b.length⟩ hfl)
      have HO := Lib.hid ho
      have d0 : decide ((f : Int) < 0) = false := decide_eq_false (by omega)
      clear h hI e2 ha hs ho
      go_enter Try.func43, Try.ntmps43
      go_wp2_with (first | (go_at_call 55; refine HF.out.mono ?_; rintro e w5 ⟨rfl, hb5⟩) | go_in)
      have h5 := HH.out.below hb5
      have c1 : w5.cell? ⟨br, 1, none⟩ = some R.vF := h5.blk.cell 1
      obtain ⟨gF, cF, eF, hcF1, hcF2⟩ := own_open h5.parts.fown (by omega)
      have hFo := h5.parts.fown
      rw [eF] at c1 hFo
      have p1 := (World.ownsRow.cellAt hFo f (by omega)).trans (ptrsF_get hf)
      have hB := h5.parts.files.blk f hf
      have hOf := h5.parts.files.own f hf
      have q0 : w5.cell? ⟨R.fb f, 0, none⟩ = some (R.fv f) := hB.cell 0
      have q1 : w5.cell? ⟨R.fb f, 1, none⟩ = some (.int .i64 (S.files f).kept) := hB.cell 1
      have z1 : w5.frozen? ⟨R.fb f, 1, none⟩ = false := hB.frozen 1
      have z1' : w5.drew.frozen? ⟨R.fb f, 1, none⟩ = false := z1
      have q1' : w5.drew.cell? ⟨R.fb f, 1, none⟩ = some (.int .i64 (S.files f).kept) := q1
      obtain ⟨fa, fc, efv⟩ := own_shape hOf
      have hs5 := hb5.size
      have h5d := h5.drew
      have k1 : Keeps (fun q => q = R.fb f) w5.drew (w5.drew.setCell ⟨R.fb f, 1, none⟩ (.int .i64 (S.files f).b.length)) := Keeps.one _ ⟨R.fb f, 1, none⟩ _
      have hD := h5d.setF (by show base ≤ w5.heap.size; omega) hf k1 (fun q e => .inl e) (R.fv f) ⟨(S.files f).b, (S.files f).b.length⟩ (by simpa using (h5d.parts.files.blk f hf).set 1 (.int .i64 (S.files f).b.length)) (own_set (h5d.parts.files.own f hf) (h5d.parts.files.blk f hf) (by decide) 1 _) (fun q hq => .inl hq)
      have hfw := fun k (hk : k < w.heap.size) => (fpAll_iff (fp := fp) (w := w5.drew) (w' := w5.drew.setCell ⟨R.fb f, 1, none⟩ (.int .i64 (S.files f).b.length)) (k := k) (by show k < w5.heap.size; omega))
      have HDS := Lib.hid (r_did_end (w := w) hD HS.out HO.out HH.out.fpd (((Keeps.ofBelow hb5).drew).trans' (k1.mono (fun q e => by rw [e]; exact h5.parts.files.fpb f hf))) hfw)
      rw [efv] at q0
      have f0 : (0 : Int) ≤ (f : Int) := by omega
      have f1 : (f : Int) < (S.many : Int) := by omega
      clear h5 hB hOf efv hFo eF hD k1 h5d hfw hb5 HS
      generalize (S.files f).b.length = bl at *
      refine start_ (n := 21) (S := fun w' => w'.cell? ⟨br, 1, none⟩ = some (.slice (some ⟨gF, 0, none⟩) S.many cF) ∧ w'.cell? ⟨gF, f, none⟩ = some (.pointer (some ⟨R.fb f, 0, none⟩)) ∧ w'.cell? ⟨R.fb f, 0, none⟩ = some (.slice fa bl fc)) (ds := [20]) #[false, false, false, false, false, false, false, false, false, false, false, false, false, false, false, false, false, false, false, false, false] (by kernel_rfl) rfl rfl ⟨c1, p1, q0⟩ (fun hHeld => ?_)
      refine pure_ (i := 0) (N := some 15) (v := ?_) (a' := ?_) #[true, false, false, false, false, false, false, false, false, false, false, false, false, false, false, false, false, false, false, false, false] rfl rfl (by kernel_rfl) (fun _ _ _ h => h) (Or.inl ⟨by rfl, ?_⟩) ?_ ?_
      rotate_left
      · intro w'
        go_simp
        with_reducible rfl
      rotate_left
      · simp only [Act.put, List.setIfInBounds_toArray, List.set_cons_zero, List.set_cons_succ, i64_w, i32_w]
        rfl
      refine pure_ (i := 1) (N := some 16) (v := ?_) (a' := ?_) #[true, true, false, false, false, false, false, false, false, false, false, false, false, false, false, false, false, false, false, false, false] rfl rfl (by kernel_rfl) (fun _ _ _ h => h) (Or.inl ⟨by rfl, ?_⟩) ?_ ?_
      rotate_left
      · intro w'
        go_simp
        with_reducible rfl
      rotate_left
      · simp only [Act.put, List.setIfInBounds_toArray, List.set_cons_zero, List.set_cons_succ, i64_w, i32_w]
        rfl
      refine pure_ (i := 2) (N := some 17) (v := ?_) (a' := ?_) #[true, true, true, false, false, false, false, false, false, false, false, false, false, false, false, false, false, false, false, false, false] rfl rfl (by kernel_rfl) (fun _ _ _ h => h) (Or.inl ⟨by rfl, ?_⟩) ?_ ?_
      rotate_left
      · intro w'
        go_simp
        with_reducible rfl
      rotate_left
      · simp only [Act.put, List.setIfInBounds_toArray, List.set_cons_zero, List.set_cons_succ, i64_w, i32_w]
        rfl
      refine pure_ (i := 4) (N := some 19) (v := ?_) (a' := ?_) #[true, true, true, false, true, false, false, false, false, false, false, false, false, false, false, false, false, false, false, false, false] rfl rfl (by kernel_rfl) (fun _ _ _ h => h) (Or.inl ⟨by rfl, ?_⟩) ?_ ?_
      rotate_left
      · intro w'
        go_simp
        with_reducible rfl
      rotate_left
      · simp only [Act.put, List.setIfInBounds_toArray, List.set_cons_zero, List.set_cons_succ, i64_w, i32_w]
        rfl
      refine pure_ (i := 7) (N := some 22) (v := ?_) (a' := ?_) #[true, true, true, false, true, false, false, true, false, false, false, false, false, false, false, false, false, false, false, false, false] rfl rfl (by kernel_rfl) (fun _ _ _ h => h) (Or.inl ⟨by rfl, ?_⟩) ?_ ?_
      rotate_left
      · intro w'
        go_simp
        with_reducible rfl
      rotate_left
      · simp only [Act.put, List.setIfInBounds_toArray, List.set_cons_zero, List.set_cons_succ, i64_w, i32_w]
        rfl
      refine pure_ (i := 8) (N := some 23) (v := ?_) (a' := ?_) #[true, true, true, false, true, false, false, true, true, false, false, false, false, false, false, false, false, false, false, false, false] rfl rfl (by kernel_rfl) (fun _ _ _ h => h) (Or.inl ⟨by rfl, ?_⟩) ?_ ?_
      rotate_left
      · intro w'
        go_simp
        with_reducible rfl
      rotate_left
      · simp only [Act.put, List.setIfInBounds_toArray, List.set_cons_zero, List.set_cons_succ, i64_w, i32_w]
        rfl
      refine pure_ (i := 9) (N := some 24) (v := ?_) (a' := ?_) #[true, true, true, false, true, false, false, true, true, true, false, false, false, false, false, false, false, false, false, false, false] rfl rfl (by kernel_rfl) (fun _ _ _ h => h) (Or.inl ⟨by rfl, ?_⟩) ?_ ?_
      rotate_left
      · intro w'
        go_simp
        with_reducible rfl
      rotate_left
      · simp only [Act.put, List.setIfInBounds_toArray, List.set_cons_zero, List.set_cons_succ, i64_w, i32_w]
        rfl
      refine pure_ (i := 11) (N := some 26) (v := ?_) (a' := ?_) #[true, true, true, false, true, false, false, true, true, true, false, true, false, false, false, false, false, false, false, false, false] rfl rfl (by kernel_rfl) (fun _ _ _ h => h) (Or.inl ⟨by rfl, ?_⟩) ?_ ?_
      rotate_left
      · intro w'
        go_simp
        with_reducible rfl
      rotate_left
      · simp only [Act.put, List.setIfInBounds_toArray, List.set_cons_zero, List.set_cons_succ, i64_w, i32_w]
        rfl
      refine take_ (i := 3) (N := some 18) (v := ?_) (a' := ?_) #[true, true, true, true, true, false, false, true, true, true, false, true, false, false, false, false, false, false, false, false, false] rfl rfl (by kernel_rfl) (fun _ _ _ h => h) (Or.inl ⟨by rfl, ?_⟩) hHeld ?_ ?_
      rotate_left
      · rintro w' ⟨s0, s1, s2⟩
        go_simp
        with_reducible rfl
      rotate_left
      · simp only [Act.put, List.setIfInBounds_toArray, List.set_cons_zero, List.set_cons_succ, i64_w, i32_w]
        rfl
      refine pure_ (i := 5) (N := some 20) (v := ?_) (a' := ?_) #[true, true, true, true, true, true, false, true, true, true, false, true, false, false, false, false, false, false, false, false, false] rfl rfl (by kernel_rfl) (fun _ _ _ h => h) (Or.inl ⟨by rfl, ?_⟩) ?_ ?_
      rotate_left
      · intro w'
        go_simp
        with_reducible rfl
      rotate_left
      · simp only [Act.put, List.setIfInBounds_toArray, List.set_cons_zero, List.set_cons_succ, i64_w, i32_w]
        rfl
      refine take_ (i := 6) (N := some 21) (v := ?_) (a' := ?_) #[true, true, true, true, true, true, true, true, true, true, false, true, false, false, false, false, false, false, false, false, false] rfl rfl (by kernel_rfl) (fun _ _ _ h => h) (Or.inl ⟨by rfl, ?_⟩) hHeld ?_ ?_
      rotate_left
      · rintro w' ⟨s0, s1, s2⟩
        go_simp
        with_reducible rfl
      rotate_left
      · simp only [Act.put, List.setIfInBounds_toArray, List.set_cons_zero, List.set_cons_succ, i64_w, i32_w]
        rfl
      refine take_ (i := 10) (N := some 25) (v := ?_) (a' := ?_) #[true, true, true, true, true, true, true, true, true, true, true, true, false, false, false, false, false, false, false, false, false] rfl rfl (by kernel_rfl) (fun _ _ _ h => h) (Or.inl ⟨by rfl, ?_⟩) hHeld ?_ ?_
      rotate_left
      · rintro w' ⟨s0, s1, s2⟩
        go_simp
        with_reducible rfl
      rotate_left
      · simp only [Act.put, List.setIfInBounds_toArray, List.set_cons_zero, List.set_cons_succ, i64_w, i32_w]
        rfl
      refine pure_ (i := 12) (N := some 27) (v := ?_) (a' := ?_) #[true, true, true, true, true, true, true, true, true, true, true, true, true, false, false, false, false, false, false, false, false] rfl rfl (by kernel_rfl) (fun _ _ _ h => h) (Or.inl ⟨by rfl, ?_⟩) ?_ ?_
      rotate_left
      · intro w'
        go_simp
        with_reducible rfl
      rotate_left
      · simp only [Act.put, List.setIfInBounds_toArray, List.set_cons_zero, List.set_cons_succ, i64_w, i32_w]
        rfl
      refine take_ (i := 13) (N := some 28) (v := ?_) (a' := ?_) #[true, true, true, true, true, true, true, true, true, true, true, true, true, true, false, false, false, false, false, false, false] rfl rfl (by kernel_rfl) (fun _ _ _ h => h) (Or.inl ⟨by rfl, ?_⟩) hHeld ?_ ?_
      rotate_left
      · rintro w' ⟨s0, s1, s2⟩
        go_simp
        with_reducible rfl
      rotate_left
      · simp only [Act.put, List.setIfInBounds_toArray, List.set_cons_zero, List.set_cons_succ, i64_w, i32_w]
        rfl
      refine pure_ (i := 14) (N := some 29) (v := ?_) (a' := ?_) #[true, true, true, true, true, true, true, true, true, true, true, true, true, true, true, false, false, false, false, false, false] rfl rfl (by kernel_rfl) (fun _ _ _ h => h) (Or.inl ⟨by rfl, ?_⟩) ?_ ?_
      rotate_left
      · intro w'
        go_simp
        with_reducible rfl
      rotate_left
      · simp only [Act.put, List.setIfInBounds_toArray, List.set_cons_zero, List.set_cons_succ, i64_w, i32_w]
        rfl
      refine pure_ (i := 15) (N := some 30) (v := ?_) (a' := ?_) #[true, true, true, true, true, true, true, true, true, true, true, true, true, true, true, true, false, false, false, false, false] rfl rfl (by kernel_rfl) (fun _ _ _ h => h) (Or.inl ⟨by rfl, ?_⟩) ?_ ?_
      rotate_left
      · intro w'
        go_simp
        with_reducible rfl
      rotate_left
      · simp only [Act.put, List.setIfInBounds_toArray, List.set_cons_zero, List.set_cons_succ, i64_w, i32_w]
        rfl
      refine take_ (i := 16) (N := some 31) (v := ?_) (a' := ?_) #[true, true, true, true, true, true, true, true, true, true, true, true, true, true, true, true, true, false, false, false, false] rfl rfl (by kernel_rfl) (fun _ _ _ h => h) (Or.inl ⟨by rfl, ?_⟩) hHeld ?_ ?_
      rotate_left
      · rintro w' ⟨s0, s1, s2⟩
        go_simp
        with_reducible rfl
      rotate_left
      · simp only [Act.put, List.setIfInBounds_toArray, List.set_cons_zero, List.set_cons_succ, i64_w, i32_w]
        rfl
      refine pure_ (i := 17) (N := some 32) (v := ?_) (a' := ?_) #[true, true, true, true, true, true, true, true, true, true, true, true, true, true, true, true, true, true, false, false, false] rfl rfl (by kernel_rfl) (fun _ _ _ h => h) (Or.inl ⟨by rfl, ?_⟩) ?_ ?_
      rotate_left
      · intro w'
        go_simp
        with_reducible rfl
      rotate_left
      · simp only [Act.put, List.setIfInBounds_toArray, List.set_cons_zero, List.set_cons_succ, i64_w, i32_w]
        rfl
      refine pure_ (i := 18) (N := some 33) (v := ?_) (a' := ?_) #[true, true, true, true, true, true, true, true, true, true, true, true, true, true, true, true, true, true, true, false, false] rfl rfl (by kernel_rfl) (fun _ _ _ h => h) (Or.inl ⟨by rfl, ?_⟩) ?_ ?_
      rotate_left
      · intro w'
        go_simp
        with_reducible rfl
      rotate_left
      · simp only [Act.put, List.setIfInBounds_toArray, List.set_cons_zero, List.set_cons_succ, i64_w, i32_w]
        rfl
      refine pure_ (i := 19) (N := some 34) (v := ?_) (a' := ?_) #[true, true, true, true, true, true, true, true, true, true, true, true, true, true, true, true, true, true, true, true, false] rfl rfl (by kernel_rfl) (fun _ _ _ h => h) (Or.inl ⟨by rfl, ?_⟩) ?_ ?_
      rotate_left
      · intro w'
        go_simp
        with_reducible rfl
      rotate_left
      · simp only [Act.put, List.setIfInBounds_toArray, List.set_cons_zero, List.set_cons_succ, i64_w, i32_w]
        rfl
      refine last_ (i := 20) (N := none) #[true, true, true, true, true, true, true, true, true, true, true, true, true, true, true, true, true, true, true, true, true] rfl rfl (by kernel_rfl) (by decide) (fun K hK => ?_)
      refine skip_ (w1 := ?_) (by rfl) rfl ?_ ?_
      rotate_left
      · go_simp
        rfl
      try clear hHeld
      refine hK.out _ _ ?_
      clear hK K
      try clear hHeld
      refine done_ (by kernel_rfl) ?_
      go_wp2_with (first | (go_at_call 56; refine HDS.out.mono ?_; rintro e w6 ⟨rfl, hP⟩) | go_in)
      go_ret
      exact hP _
end
end Go.Proofs.Ytpckjinlopmbcaa
