/-
  Layer 11 in memory: how a disk lies there.
-/
import Derived.Test.YtpckjinlopmbcaaFsP
import Derived.Test.YtpckjinlopmbcaaNtB
namespace Go.Proofs.Ytpckjinlopmbcaa
set_option linter.unusedVariables false
set_option maxRecDepth 100000
set_option linter.unusedSimpArgs false
open Go.RowKit Go.Maps

/-- How a pointer to a file reads. -/
def elF : Value → Option (DataW Unit × List MemPlace)
  | .pointer none => some (.lit (.int .i64 (-1)), [])
  | .pointer (some ⟨b, 0, none⟩) => some (.lit (.int .i64 b), [])
  | _ => none
theorem elF_some (b : Nat) : elF (.pointer (some ⟨b, 0, none⟩)) = some (.lit (.int .i64 b), []) := rfl
theorem elF_inv {v : Value} {z : Int} {ps : List MemPlace} (h : elF v = some (.lit (.int .i64 z), ps)) : (z = -1 ∧ v = .pointer none) ∨ ∃ b : Nat, z = b ∧ v = .pointer (some ⟨b, 0, none⟩) := by
  unfold elF at h
  split at h
  · left
    simp at h
    exact ⟨h.1.symm, rfl⟩
  · right
    simp at h
    exact ⟨_, h.1.symm, rfl⟩
  · cases h
theorem elF_int {v : Value} {y : DataW Unit × List MemPlace} (h : elF v = some y) : ∃ z, y = (.lit (.int .i64 z), []) := by
  unfold elF at h
  split at h
  · exact ⟨_, (Option.some.inj h).symm⟩
  · exact ⟨_, (Option.some.inj h).symm⟩
  · cases h
theorem keyI : Keyed Try.prog 3 := int_keyed Try.underlying3
theorem keyI_mk {x : Int} (hx : (Lit.int .i64 x).wf = true) : keyOf Try.prog 3 (.int .i64 x) = some (.int .i64 x) := keyOf_int_mk Try.underlying3 hx
/-- Where a name's file lies. -/
def ptrD (fb : Nat → Nat) (l : Dir) (x : Int) : Value := match atD l x with | some f => .pointer (some ⟨fb f, 0, none⟩) | none => .pointer none
/-- A map of names. -/
abbrev OwnD (w : World) (fb : Nat → Nat) (b : Nat) (l : Dir) : Prop := w.ownsMap Try.prog 3 elF b l.length (dirD fb l)
section
variable {w w' : World} {fb : Nat → Nat} {b n : Nat} {l : Dir}
theorem ownD_size (h : w.ownsMap Try.prog 3 elF b n (dirD fb l)) : OwnD w fb b l := by
  obtain ⟨es, clock, hb, F, _, hD⟩ := h
  refine ⟨es, clock, hb, F, ?_, hD⟩
  have := congrArg Maps.size hD
  rw [dirD_size] at this
  simp [Maps.size, length_sorted] at this
  omega
theorem ownD_keeps {F : Nat → Prop} (h : OwnD w fb b l) (k : Keeps F w w') (hF : ¬ F b) : OwnD w' fb b l := by
  obtain ⟨es, clock, hb, r⟩ := h
  exact ⟨es, clock, k.heapSome hF hb, r⟩
theorem ownD_ne {cs : Array Value} {T : TypeId} {q : Nat} (h : OwnD w fb b l) (hq : Blk w q cs T) : b ≠ q := by
  rintro rfl
  obtain ⟨es, clock, hb, _⟩ := h
  unfold Blk at hq
  rw [hb] at hq
  cases hq
theorem ownD_ne' {e : TypeId} {s m : Nat} {v : Value} {xs : List Value} (h : OwnD w fb b l) (hq : Own w e s v m xs) : v.ownBlock ≠ some b := by
  intro hk
  obtain ⟨es, clock, hb, _⟩ := h
  rcases hq.2 with ⟨rfl, _⟩ | ⟨g, cap, cur, rfl, _, hh, _⟩
  · simp [Value.ownBlock] at hk
  obtain rfl : g = b := by simpa [Value.ownBlock] using hk
  rw [hb] at hh
  cases hh
theorem ownD_congr {fb' : Nat → Nat} (h : OwnD w fb b l) (he : ∀ x ∈ l, fb' x.2 = fb x.2) : OwnD w fb' b l := by
  show w.ownsMap Try.prog 3 elF b l.length (dirD fb' l)
  rw [dirD_congr he]; exact h
/-- What a look-up gives. -/
theorem look_dir (h : OwnD w fb b l) {x : Int} (hx : (Lit.int .i64 x).wf = true) : (Instr.lookup 57 (.map (some b)) (.int .i64 x) false).run Try.prog w = .ok (ptrD fb l x) w := by
  obtain ⟨v, ps, hrun, hv⟩ := h.lookup keyI Try.underlying57 (z := .pointer none) (Try.zeroValue62 w) (zd := .lit (.int .i64 (-1))) (zp := []) rfl (keyI_mk hx)
  rw [hrun]
  congr 1
  rw [dirD_at] at hv
  unfold ptrD
  cases ha : atD l x with
  | none =>
    rw [ha] at hv
    rcases elF_inv hv with ⟨_, e⟩ | ⟨q, e, _⟩
    · exact e
    · omega
  | some f =>
    rw [ha] at hv
    rcases elF_inv hv with ⟨e, _⟩ | ⟨q, e, e'⟩
    · omega
    · rw [e']
      have : q = fb f := by omega
      rw [this]
end

/-- A change of the names, as a function value: the file's box, the names' boxes. -/
def WRep (w : World) (fp : Nat → Prop) (fb : Nat → Nat) (v : Value) : Chg → Prop
  | .put n f => ∃ q1 q2, v = .func (.func 30) #[] #[.pointer (some ⟨q1, 0, none⟩), .pointer (some ⟨q2, 0, none⟩)] ∧ Blk w q1 #[.pointer (some ⟨fb f, 0, none⟩)] 62 ∧ Blk w q2 #[.int .i64 n] 3 ∧ fp q1 ∧ fp q2 ∧ (Lit.int .i64 n).wf = true
  | .ren n f to => ∃ q1 q2 q3, v = .func (.func 37) #[] #[.pointer (some ⟨q1, 0, none⟩), .pointer (some ⟨q2, 0, none⟩), .pointer (some ⟨q3, 0, none⟩)] ∧ Blk w q1 #[.int .i64 n] 3 ∧ Blk w q2 #[.pointer (some ⟨fb f, 0, none⟩)] 62 ∧ Blk w q3 #[.int .i64 to] 3 ∧ fp q1 ∧ fp q2 ∧ fp q3 ∧ (Lit.int .i64 n).wf = true ∧ (Lit.int .i64 to).wf = true
  | .rem n => ∃ q1, v = .func (.func 38) #[] #[.pointer (some ⟨q1, 0, none⟩)] ∧ Blk w q1 #[.int .i64 n] 3 ∧ fp q1 ∧ (Lit.int .i64 n).wf = true
/-- Blocks that boxes may be. -/
def BoxB (w : World) (k : Nat) : Prop := ∃ v T, (T = 3 ∨ T = 62) ∧ Blk w k #[v] T
theorem WRep.keeps {F : Nat → Prop} {w w' : World} {fp fp' : Nat → Prop} {fb fb' : Nat → Nat} {v : Value} {c : Chg} (h : WRep w fp fb v c) (k : Keeps F w w') (hF : ∀ q, fp q → BoxB w q → ¬ F q) (hp : ∀ q, fp q → fp' q) (hb : match c with | .put _ f => fb' f = fb f | .ren _ f _ => fb' f = fb f | .rem _ => True) : WRep w' fp' fb' v c := by
  cases c with
  | put n f =>
    obtain ⟨q1, q2, e, b1, b2, f1, f2, hw⟩ := h
    exact ⟨q1, q2, e, by rw [show fb' f = fb f from hb]; exact b1.keeps k (hF _ f1 ⟨_, _, .inr rfl, b1⟩), b2.keeps k (hF _ f2 ⟨_, _, .inl rfl, b2⟩), hp _ f1, hp _ f2, hw⟩
  | ren n f to =>
    obtain ⟨q1, q2, q3, e, b1, b2, b3, f1, f2, f3, hw⟩ := h
    exact ⟨q1, q2, q3, e, b1.keeps k (hF _ f1 ⟨_, _, .inl rfl, b1⟩), by rw [show fb' f = fb f from hb]; exact b2.keeps k (hF _ f2 ⟨_, _, .inr rfl, b2⟩), b3.keeps k (hF _ f3 ⟨_, _, .inl rfl, b3⟩), hp _ f1, hp _ f2, hp _ f3, hw⟩
  | rem n =>
    obtain ⟨q1, e, b1, f1, hw⟩ := h
    exact ⟨q1, e, b1.keeps k (hF _ f1 ⟨_, _, .inl rfl, b1⟩), hp _ f1, hw⟩

/-- Where a disk's parts lie: the two maps, the files, their bytes, the changes that wait. -/
structure FRef where
  bk : Nat
  bn : Nat
  fb : Nat → Nat
  fv : Nat → Value
  vw : Value
  wv : List Value
/-- The disk's cells. -/
def dskV (R : FRef) (S : FS) : Array Value := #[.int .i64 S.room, .map (some R.bk), .map (some R.bn), R.vw, .bool S.out, .bool S.armed, .int .i64 S.left]
/-- The files. -/
structure FilesR (w : World) (fp : Nat → Prop) (R : FRef) (files : Nat → PFile) (many : Nat) : Prop where
  blk : ∀ (f : Nat), f < many → Blk w (R.fb f) #[R.fv f, .int .i64 (files f).kept] 64
  own : ∀ (f : Nat), f < many → Own w 5 1 (R.fv f) (files f).b.length (byt (files f).b)
  inj : ∀ (f g : Nat), f < many → g < many → R.fb f = R.fb g → f = g
  apart : ∀ (f g k : Nat), f < many → g < many → (R.fv f).ownBlock = some k → (R.fv g).ownBlock = some k → f = g
  fpb : ∀ (f : Nat), f < many → fp (R.fb f)
  fpv : ∀ (f k : Nat), f < many → (R.fv f).ownBlock = some k → fp k
/-- The changes that wait. -/
structure WaitsR (w : World) (fp : Nat → Prop) (R : FRef) (waits : List Chg) : Prop where
  own : Own w 66 1 R.vw R.wv.length R.wv
  len : R.wv.length = waits.length
  rep : ∀ (i : Nat) (c : Chg), waits[i]? = some c → ∃ v : Value, R.wv[i]? = some v ∧ WRep w fp R.fb v c
  fpw : ∀ (k : Nat), R.vw.ownBlock = some k → fp k
/-- A disk but for its own block. -/
structure DParts (w : World) (fp : Nat → Prop) (R : FRef) (S : FS) : Prop where
  kept : OwnD w R.fb R.bk S.kept
  now : OwnD w R.fb R.bn S.now
  ne : R.bk ≠ R.bn
  fpk : fp R.bk
  fpn : fp R.bn
  files : FilesR w fp R S.files S.many
  waits : WaitsR w fp R S.waits
/-- What is small. -/
structure Small (S : FS) (m : Nat) : Prop where
  top : m ≤ 1000
  room : (Lit.int .i64 S.room).wf = true
  left : -9223372036854775808 ≤ S.left ∧ S.left ≤ 9223372036854775807
  leftA : S.armed = true → 1 ≤ S.left
  many : S.many ≤ m
  dirs : S.kept.length + S.waits.length ≤ m
  nowl : S.now.length ≤ m
  len : ∀ (f : Nat), (S.files f).b.length ≤ 300 * m
structure DRep0 (w : World) (base : Nat) (fp : Nat → Prop) (bd : Nat) (R : FRef) (S : FS) : Prop where
  blk : Blk w bd (dskV R S) 60
  fpd : fp bd
  parts : DParts w fp R S
  inv : FInv S
  lt : ∀ (k : Nat), fp k → base ≤ k ∧ k < w.heap.size
structure DRep (w : World) (base : Nat) (fp : Nat → Prop) (bd : Nat) (R : FRef) (m : Nat) (S : FS) : Prop extends DRep0 w base fp bd R S where
  small : Small S m

section
variable {w w' : World} {F fp fp' : Nat → Prop} {R R' : FRef}
theorem FilesR.keeps {files : Nat → PFile} {many : Nat} (h : FilesR w fp R files many) (k : Keeps F w w') (h1 : ∀ (f : Nat), f < many → ¬ F (R.fb f)) (h2 : ∀ f q, f < many → (R.fv f).ownBlock = some q → ¬ F q) (hp : ∀ q, fp q → fp' q) (e1 : ∀ (f : Nat), f < many → R'.fb f = R.fb f) (e2 : ∀ (f : Nat), f < many → R'.fv f = R.fv f) : FilesR w' fp' R' files many := by
  refine ⟨fun f hf => ?_, fun f hf => ?_, fun f g hf hg he => ?_, fun f g q hf hg hq hq' => ?_, fun f hf => ?_, fun f q hf hq => ?_⟩
  · rw [e1 f hf, e2 f hf]; exact (h.blk f hf).keeps k (h1 f hf)
  · rw [e2 f hf]; exact own_keeps (h.own f hf) k (fun q hq => h2 f q hf hq)
  · rw [e1 f hf, e1 g hg] at he; exact h.inj f g hf hg he
  · rw [e2 f hf] at hq; rw [e2 g hg] at hq'; exact h.apart f g q hf hg hq hq'
  · rw [e1 f hf]; exact hp _ (h.fpb f hf)
  · rw [e2 f hf] at hq; exact hp _ (h.fpv f q hf hq)
theorem WaitsR.keeps {waits : List Chg} {many : Nat} (h : WaitsR w fp R waits) (k : Keeps F w w') (h1 : ∀ q, R.vw.ownBlock = some q → ¬ F q) (h2 : ∀ q, fp q → BoxB w q → ¬ F q) (hp : ∀ q, fp q → fp' q) (hw : ∀ c ∈ waits, ChgLt many c) (e1 : ∀ (f : Nat), f < many → R'.fb f = R.fb f) (e2 : R'.vw = R.vw) (e3 : R'.wv = R.wv) : WaitsR w' fp' R' waits := by
  refine ⟨by rw [e2, e3]; exact own_keeps h.own k h1, by rw [e3]; exact h.len, fun i c hi => ?_, fun q hq => by rw [e2] at hq; exact hp _ (h.fpw q hq)⟩
  obtain ⟨v, hv, hr⟩ := h.rep i c hi
  have hc := hw c (List.mem_of_getElem? hi)
  exact ⟨v, by rw [e3]; exact hv, hr.keeps k h2 hp (by cases c <;> first | exact e1 _ hc | trivial)⟩
/-- The disk lies as it lay when nothing of it is written. -/
theorem DParts.keeps {S : FS} (h : DParts w fp R S) (hi : FInv S) (k : Keeps F w w') (hF : ∀ q, fp q → ¬ F q) : DParts w' fp R S :=
  ⟨ownD_keeps h.kept k (hF _ h.fpk), ownD_keeps h.now k (hF _ h.fpn), h.ne, h.fpk, h.fpn, h.files.keeps k (fun f hf => hF _ (h.files.fpb f hf)) (fun f q hf hq => hF _ (h.files.fpv f q hf hq)) (fun _ h => h) (fun _ _ => rfl) (fun _ _ => rfl),
    h.waits.keeps (many := S.many) k (fun q hq => hF _ (h.waits.fpw q hq)) (fun q hq _ => hF _ hq) (fun _ h => h) hi.wlt (fun _ _ => rfl) rfl rfl⟩
end
end Go.Proofs.Ytpckjinlopmbcaa
