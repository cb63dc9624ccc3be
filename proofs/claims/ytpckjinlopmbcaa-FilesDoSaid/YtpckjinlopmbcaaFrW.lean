/-
  The document's disk in memory.
-/
import Derived.Test.YtpckjinlopmbcaaFrS
namespace Go.Proofs.Ytpckjinlopmbcaa
set_option linter.unusedVariables false
set_option maxRecDepth 100000
set_option linter.unusedSimpArgs false
open Go.RowKit Go.Maps
/-- Where its parts lie. -/
structure RRef where
  fb : Nat → Nat
  fv : Nat → Value
  vF : Value
  vK : Value
  vW : Value
def rdV (R : RRef) (S : FS) : Array Value := #[.int .i64 S.room, R.vF, R.vK, R.vW, .bool S.out, .bool S.armed, .int .i64 S.left]
def ptrsF (fb : Nat → Nat) (n : Nat) : List Value := (List.range n).map fun f => .pointer (some ⟨fb f, 0, none⟩)
theorem ptrsF_length (fb : Nat → Nat) (n : Nat) : (ptrsF fb n).length = n := by simp [ptrsF]
theorem ptrsF_get {fb : Nat → Nat} {n f : Nat} (h : f < n) : (ptrsF fb n)[f]? = some (.pointer (some ⟨fb f, 0, none⟩)) := by simp [ptrsF, h]
theorem ptrsF_succ (fb : Nat → Nat) (n : Nat) : ptrsF fb (n + 1) = ptrsF fb n ++ [.pointer (some ⟨fb n, 0, none⟩)] := by simp [ptrsF, List.range_succ]
theorem ptrsF_congr {fb fb' : Nat → Nat} {n : Nat} (h : ∀ f, f < n → fb' f = fb f) : ptrsF fb' n = ptrsF fb n := by
  unfold ptrsF
  exact List.map_congr_left (fun f hf => by rw [h f (by simpa using hf)])
/-- A change, in memory. -/
def chV : Chg → List Value
  | .put n f => [.int .i64 n, .int .i64 f, .int .i64 (-1)]
  | .ren n f to => [.int .i64 to, .int .i64 f, .int .i64 n]
  | .rem n => [.int .i64 n, .int .i64 (-1), .int .i64 (-1)]
def chC (l : List Chg) : List Value := l.flatMap chV
theorem chV_length (c : Chg) : (chV c).length = 3 := by cases c <;> rfl
theorem chC_length (l : List Chg) : (chC l).length = l.length * 3 := by
  induction l with
  | nil => rfl
  | cons x l ih => unfold chC at ih ⊢; rw [List.flatMap_cons, List.length_append, ih, chV_length]; simp; omega
theorem chC_append (l m : List Chg) : chC (l ++ m) = chC l ++ chC m := by simp [chC]
theorem chC_get {l : List Chg} {i : Nat} {c : Chg} (hc : l[i]? = some c) {j : Nat} (hj : j < 3) : (chC l)[i * 3 + j]? = (chV c)[j]? := by
  induction l generalizing i with
  | nil => simp at hc
  | cons a l ih =>
    have e : chC (a :: l) = chV a ++ chC l := rfl
    cases i with
    | zero =>
      simp at hc; subst hc
      rw [e, Nat.zero_mul, Nat.zero_add, List.getElem?_append_left (by rw [chV_length]; exact hj)]
    | succ i =>
      have hc : l[i]? = some c := by simpa using hc
      rw [e, List.getElem?_append_right (by rw [chV_length]; omega), chV_length, ← ih hc]
      congr 1; omega
structure FilesQ (w : World) (fp : Nat → Prop) (R : RRef) (files : Nat → PFile) (many : Nat) : Prop where
  blk : ∀ (f : Nat), f < many → Blk w (R.fb f) #[R.fv f, .int .i64 (files f).kept] 81
  own : ∀ (f : Nat), f < many → Own w 5 1 (R.fv f) (files f).b.length (byt (files f).b)
  inj : ∀ (f g : Nat), f < many → g < many → R.fb f = R.fb g → f = g
  apart : ∀ (f g k : Nat), f < many → g < many → (R.fv f).ownBlock = some k → (R.fv g).ownBlock = some k → f = g
  fpb : ∀ (f : Nat), f < many → fp (R.fb f)
  fpv : ∀ (f k : Nat), f < many → (R.fv f).ownBlock = some k → fp k
structure RParts (w : World) (fp : Nat → Prop) (R : RRef) (S : FS) : Prop where
  files : FilesQ w fp R S.files S.many
  fown : Own w 82 1 R.vF S.many (ptrsF R.fb S.many)
  fpF : ∀ (k : Nat), R.vF.ownBlock = some k → fp k
  kept : RdN w R.vK S.kept
  fpK : 0 < S.kept.length → ∀ (k : Nat), R.vK.ownBlock = some k → fp k
  waits : Own w 87 3 R.vW S.waits.length (chC S.waits)
  fpW : ∀ (k : Nat), R.vW.ownBlock = some k → fp k
structure RRep (w : World) (base : Nat) (fp : Nat → Prop) (br : Nat) (R : RRef) (S : FS) : Prop where
  blk : Blk w br (rdV R S) 55
  fpd : fp br
  parts : RParts w fp R S
  lt : ∀ (k : Nat), fp k → base ≤ k ∧ k < w.heap.size
section
variable {w w' : World} {F fp fp' : Nat → Prop} {R R' : RRef} {S : FS} {base br : Nat}
theorem FilesQ.keeps {files : Nat → PFile} {many : Nat} (h : FilesQ w fp R files many) (k : Keeps F w w') (h1 : ∀ (f : Nat), f < many → ¬ F (R.fb f)) (h2 : ∀ f q, f < many → (R.fv f).ownBlock = some q → ¬ F q) (hp : ∀ q, fp q → fp' q) (e1 : ∀ (f : Nat), f < many → R'.fb f = R.fb f) (e2 : ∀ (f : Nat), f < many → R'.fv f = R.fv f) : FilesQ w' fp' R' files many := by
  refine ⟨fun f hf => ?_, fun f hf => ?_, fun f g hf hg he => ?_, fun f g q hf hg hq hq' => ?_, fun f hf => ?_, fun f q hf hq => ?_⟩
  · rw [e1 f hf, e2 f hf]; exact (h.blk f hf).keeps k (h1 f hf)
  · rw [e2 f hf]; exact own_keeps (h.own f hf) k (fun q hq => h2 f q hf hq)
  · rw [e1 f hf, e1 g hg] at he; exact h.inj f g hf hg he
  · rw [e2 f hf] at hq; rw [e2 g hg] at hq'; exact h.apart f g q hf hg hq hq'
  · rw [e1 f hf]; exact hp _ (h.fpb f hf)
  · rw [e2 f hf] at hq; exact hp _ (h.fpv f q hf hq)
theorem RParts.keeps (h : RParts w fp R S) (k : Keeps F w w') (hF : ∀ q, fp q → ¬ F q) (hp : ∀ q, fp q → fp' q) : RParts w' fp' R S :=
  ⟨h.files.keeps k (fun f hf => hF _ (h.files.fpb f hf)) (fun f q hf hq => hF _ (h.files.fpv f q hf hq)) hp (fun _ _ => rfl) (fun _ _ => rfl), own_keeps h.fown k (fun q hq => hF _ (h.fpF q hq)), fun q hq => hp _ (h.fpF q hq), h.kept.keeps k (fun h0 q hq => hF _ (h.fpK h0 q hq)), fun h0 q hq => hp _ (h.fpK h0 q hq), own_keeps h.waits k (fun q hq => hF _ (h.fpW q hq)), fun q hq => hp _ (h.fpW q hq)⟩
theorem RRep.keeps (h : RRep w base fp br R S) (k : Keeps F w w') (hF : ∀ q, fp q → ¬ F q) : RRep w' base fp br R S :=
  ⟨h.blk.keeps k (hF _ h.fpd), h.fpd, h.parts.keeps k hF (fun _ h => h), fun q hq => ⟨(h.lt q hq).1, Nat.lt_of_lt_of_le (h.lt q hq).2 k.size⟩⟩
theorem RRep.below (h : RRep w base fp br R S) (hb : Below w.heap.size w w') : RRep w' base fp br R S := h.keeps (F := fun _ => False) (Keeps.ofBelow hb) (fun _ _ h => h)
theorem RRep.drewN (h : RRep w base fp br R S) (k : Nat) : RRep (w.drewN k) base fp br R S := h.keeps (F := fun _ => False) ((Keeps.refl _ _).drewN k) (fun _ _ h => h)
theorem RRep.drew (h : RRep w base fp br R S) : RRep w.drew base fp br R S := h.keeps (F := fun _ => False) (Keeps.refl _ _).drew (fun _ _ h => h)
/-- All new blocks are its own too. -/
theorem RRep.all (h : RRep w base fp br R S) (hw : base ≤ w.heap.size) (hb : Below w.heap.size w w') : RRep w' base (fpAll fp w w') br R S := by
  have k := Keeps.ofBelow (F := fun _ => False) hb
  refine ⟨h.blk.keeps k (fun h => h), .inl h.fpd, h.parts.keeps k (fun _ _ h => h) (fun _ h => .inl h), fun q hq => ?_⟩
  rcases hq with hq | hq
  · exact ⟨(h.lt q hq).1, Nat.lt_of_lt_of_le (h.lt q hq).2 hb.size⟩
  · exact ⟨by omega, hq.2⟩
theorem rdn_ne {v : Value} {l : Dir} {q : Nat} {cs : Array Value} {T : TypeId} (h : RdN w v l) (hq : Blk w q cs T) (hT : T ≠ 78) (h0 : 0 < l.length) : v.ownBlock ≠ some q := by
  obtain ⟨a, c, rfl, _, _, h3⟩ := h
  obtain ⟨b, o, cs', rfl, hb, _⟩ := h3 h0
  intro e
  have e : b = q := by simpa [Value.ownBlock] using e
  exact blk_ne hb hq (fun e => hT e.symm) e
theorem rdn_own_ne {v u : Value} {l : Dir} {e : TypeId} {s n : Nat} {xs : List Value} (h : RdN w v l) (ho : Own w e s u n xs) (hT : e ≠ 78) (h0 : 0 < l.length) {k : Nat} (hk : v.ownBlock = some k) : u.ownBlock ≠ some k := by
  obtain ⟨a, c, rfl, _, _, h3⟩ := h
  obtain ⟨b, o, cs', rfl, hb, _⟩ := h3 h0
  have : b = k := by simpa [Value.ownBlock] using hk
  subst this
  exact own_blk_ne ho hb hT
/-- Only its own block is written: fields, kept names, no changes. -/
theorem RParts.disk (h : RParts w fp R S) {cs : Array Value} (hB : Blk w br cs 55) (k : Keeps (fun q => q = br) w w') (hp : ∀ q, fp q → fp' q) : RParts w' fp' R S :=
  ⟨h.files.keeps k (fun f hf => blk_ne (h.files.blk f hf) hB (by decide)) (fun f q hf hq e => own_blk_ne (h.files.own f hf) hB (by decide) (e ▸ hq)) hp (fun _ _ => rfl) (fun _ _ => rfl), own_keeps h.fown k (fun q hq e => own_blk_ne h.fown hB (by decide) (e ▸ hq)), fun q hq => hp _ (h.fpF q hq), h.kept.keeps k (fun h0 q hq e => rdn_ne h.kept hB (by decide) h0 (e ▸ hq)), fun h0 q hq => hp _ (h.fpK h0 q hq), own_keeps h.waits k (fun q hq e => own_blk_ne h.waits hB (by decide) (e ▸ hq)), fun q hq => hp _ (h.fpW q hq)⟩
/-- What a method of the document's disk leaves. -/
def RPost (w : World) (base : Nat) (fp : Nat → Prop) (br : Nat) (S' : FS) (v : Value) (e : Ending) (w' : World) : Prop :=
  e = .returned v ∧ ∃ fp' R', RRep w' base fp' br R' S' ∧ (∀ k, k < w.heap.size → (fp' k ↔ fp k)) ∧ Keeps fp w w'
theorem RRep.same (h : RRep w base fp br R S) {v : Value} : RPost w base fp br S v (.returned v) w := ⟨rfl, fp, R, h, fun _ _ => Iff.rfl, Keeps.refl _ _⟩
set_option maxHeartbeats 800000 in
theorem r_did (h : RRep w base fp br R S) (hl : -9223372036854775808 ≤ S.left ∧ S.left ≤ 9223372036854775807) (hA : S.armed = true → 1 ≤ S.left) (ho : S.out = false) : Calls Try.prog 56 #[.pointer (some ⟨br, 0, none⟩)] w fun e w' => e = .returned (.tuple #[]) ∧ RRep w' base fp br R S.did ∧ Keeps (fun q => q = br) w w' := by
  have c4 : w.cell? ⟨br, 4, none⟩ = some (.bool S.out) := h.blk.cell 4
  have c5 : w.cell? ⟨br, 5, none⟩ = some (.bool S.armed) := h.blk.cell 5
  have c6 : w.cell? ⟨br, 6, none⟩ = some (.int .i64 S.left) := h.blk.cell 6
  have f4 := h.blk.frozen 4
  have f5 := h.blk.frozen 5
  have f6 := h.blk.frozen 6
  by_cases ha : S.armed = true
  · have hl2 := hA ha
    have e0 : S.did = { S with out := decide (S.left - 1 ≤ 0), armed := !decide (S.left - 1 ≤ 0), left := S.left - 1 } := by unfold FS.did; rw [if_pos ha]
    rw [e0]
    have hw1 : IntKind.i64.wrap (S.left - 1) = S.left - 1 := IntWalk.i64_in _ (by omega)
    by_cases hle : S.left - 1 ≤ 0
    · have d1 : decide (S.left - 1 ≤ 0) = true := decide_eq_true hle
      rw [d1]
      have FIN := Lib.hid (show ∀ w', w' = ((w.setCell ⟨br, 6, none⟩ (.int .i64 (S.left - 1))).setCell ⟨br, 5, none⟩ (.bool false)).setCell ⟨br, 4, none⟩ (.bool true) → RRep w' base fp br R { S with out := true, armed := !true, left := S.left - 1 } ∧ Keeps (fun q => q = br) w w' from by
        rintro w' rfl
        have k := (((Keeps.refl (fun q => q = br) w).set br 6 (.inl rfl) (.int .i64 (S.left - 1))).set br 5 (.inl rfl) (.bool false)).set br 4 (.inl rfl) (.bool true)
        have hb := ((h.blk.set 6 (.int .i64 (S.left - 1))).set 5 (.bool false)).set 4 (.bool true)
        have hP := h.parts.disk h.blk k (fp' := fp) (fun _ h => h)
        exact ⟨⟨by simpa [rdV] using hb, h.fpd, ⟨hP.files, hP.fown, hP.fpF, hP.kept, hP.fpK, hP.waits, hP.fpW⟩, fun q hq => ⟨(h.lt q hq).1, Nat.lt_of_lt_of_le (h.lt q hq).2 k.size⟩⟩, k⟩)
      rw [ha] at c5
      clear h e0 ha hA
      go_enter Try.func56, Try.ntmps56
      go_wp2
      go_end0
      exact ⟨rfl, FIN.out _ rfl⟩
    · have d1 : decide (S.left - 1 ≤ 0) = false := decide_eq_false hle
      rw [d1]
      have FIN := Lib.hid (show ∀ w', w' = w.setCell ⟨br, 6, none⟩ (.int .i64 (S.left - 1)) → RRep w' base fp br R { S with out := false, armed := !false, left := S.left - 1 } ∧ Keeps (fun q => q = br) w w' from by
        rintro w' rfl
        have k := (Keeps.refl (fun q => q = br) w).set br 6 (.inl rfl) (.int .i64 (S.left - 1))
        have hb := h.blk.set 6 (.int .i64 (S.left - 1))
        have hP := h.parts.disk h.blk k (fp' := fp) (fun _ h => h)
        exact ⟨⟨by simpa [rdV, ha, ho] using hb, h.fpd, ⟨hP.files, hP.fown, hP.fpF, hP.kept, hP.fpK, hP.waits, hP.fpW⟩, fun q hq => ⟨(h.lt q hq).1, Nat.lt_of_lt_of_le (h.lt q hq).2 k.size⟩⟩, k⟩)
      rw [ha] at c5
      clear h e0 ha hA
      go_enter Try.func56, Try.ntmps56
      go_wp2
      go_end0
      exact ⟨rfl, FIN.out _ rfl⟩
  · have ha' : S.armed = false := by simpa using ha
    have e0 : S.did = S := by unfold FS.did; rw [if_neg ha]
    rw [e0]
    rw [ha'] at c5
    have HH := Lib.hid h
    clear h e0 ha ha' hA
    go_enter Try.func56, Try.ntmps56
    go_wp2
    (try simp only [Exit.inBlock, Exit.then]); refine bodyPost_ret (results_none rfl _ _ _) rfl ?_
    exact ⟨rfl, HH.out, Keeps.refl _ _⟩
theorem r_may (w : World) (n : Int) : Calls Try.prog 54 #[.int .i64 n] w fun e w' => e = .returned (.bool (decide (mayN n))) ∧ w' = w := by
  by_cases h : 0 ≤ n
  · have hd : (decide (mayN n)) = decide (n < 1048576) := by unfold mayN; simp [h]
    rw [hd]
    have h1 : decide (0 ≤ n) = true := by simpa using h
    go_enter Try.func54, Try.ntmps54
    go_wp2
    go_ret
    simp
  · have hd : (decide (mayN n)) = false := by unfold mayN; simp [h]
    rw [hd]
    have h1 : decide (0 ≤ n) = false := by simpa using h
    go_enter Try.func54, Try.ntmps54
    go_wp2
    go_ret
    simp
theorem r_pick (w : World) (n : Int) (most : Nat) (hm : most < 1000000000) : Calls Try.prog 57 #[.int .i64 n, .int .i64 most] w fun e w' => e = .returned (.int .i64 (pickN n most)) ∧ w' = w := by
  by_cases h : n < 0
  · have hd : pickN n most = 0 := by unfold pickN; rw [if_pos h]
    rw [hd]
    have h1 : decide (n < 0) = true := by simpa using h
    go_enter Try.func57, Try.ntmps57
    go_wp2
    go_ret
    simp
  · have h1 : decide (n < 0) = false := by simpa using h
    have hl := pickN_le n most
    have hw1 : IntKind.i64.wrap ((most : Int) + 1) = (most : Int) + 1 := IntWalk.i64_in _ (by omega)
    have nz : ((most : Int) + 1 == 0) = false := by simp; omega
    have nz' : ¬ (most : Int) + 1 = 0 := by omega
    have hp : ((pickN n most : Nat) : Int) = n % ((most : Int) + 1) := by
      unfold pickN
      rw [if_neg h]
      have := Int.emod_nonneg n nz'
      omega
    have tm : n.tmod ((most : Int) + 1) = (pickN n most : Int) := by rw [hp]; exact Int.tmod_eq_emod_of_nonneg (by omega)
    have q1 : IntKind.i64.wrap (pickN n most : Int) = (pickN n most : Int) := IntWalk.i64_in _ (by omega)
    generalize pickN n most = r at *
    go_enter Try.func57, Try.ntmps57
    go_wp2
    go_ret
    exact ⟨rfl, rfl⟩
/-- A new one. -/
theorem r_new (w : World) (room : Int) : Calls Try.prog 22 #[.int .i64 room] w fun e w' => ∃ br fp R, e = .returned (.pointer (some ⟨br, 0, none⟩)) ∧ RRep w' w.heap.size fp br R (zeroF room) ∧ Below w.heap.size w w' := by
  have hB := Blk.new w #[.int .i64 room, .slice none 0 0, .slice none 0 0, .slice none 0 0, .bool false, .bool false, .int .i64 0] 55
  have hb : Below w.heap.size w (w.alloc (.cells #[.int .i64 room, .slice none 0 0, .slice none 0 0, .slice none 0 0, .bool false, .bool false, .int .i64 0] 55)) := (Below.refl _ _).alloc (Nat.le_refl _) _
  have FIN := Lib.hid (show ∃ br fp R, Ending.returned (.pointer (some ⟨w.heap.size, 0, none⟩)) = .returned (.pointer (some ⟨br, 0, none⟩)) ∧ RRep (w.alloc (.cells #[.int .i64 room, .slice none 0 0, .slice none 0 0, .slice none 0 0, .bool false, .bool false, .int .i64 0] 55)) w.heap.size fp br R (zeroF room) ∧ Below w.heap.size w (w.alloc (.cells #[.int .i64 room, .slice none 0 0, .slice none 0 0, .slice none 0 0, .bool false, .bool false, .int .i64 0] 55)) from by
    refine ⟨_, fun q => q = w.heap.size, ⟨fun _ => 0, fun _ => .slice none 0 0, .slice none 0 0, .slice none 0 0, .slice none 0 0⟩, rfl, ⟨hB, rfl, ⟨⟨fun f hf => absurd hf (Nat.not_lt_zero _), fun f hf => absurd hf (Nat.not_lt_zero _), fun f g hf => absurd hf (Nat.not_lt_zero _), fun f g k hf => absurd hf (Nat.not_lt_zero _), fun f hf => absurd hf (Nat.not_lt_zero _), fun f k hf => absurd hf (Nat.not_lt_zero _)⟩, World.ownsRow_nil .., fun k hk => by simp [Value.ownBlock] at hk, rdn_nil _, fun h => absurd h (Nat.lt_irrefl _), World.ownsRow_nil .., fun k hk => by simp [Value.ownBlock] at hk⟩, fun q hq => ?_⟩, hb⟩
    rw [hq]; exact ⟨Nat.le_refl _, by simp⟩)
  clear hB hb
  go_enter Try.func22, Try.ntmps22
  go_wp2
  go_ret
  exact FIN.out
end
end Go.Proofs.Ytpckjinlopmbcaa
