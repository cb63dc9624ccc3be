/-
  Layer 11 in plain Lean: a disk, and its names as maps.
-/
import Derived.WalkKit
import Derived.Maps.Ext
import Derived.Maps.OwnSet
import Derived.Lib.SlMapMerge
import Derived.Lib.SlKeysI
namespace Go.Proofs.Ytpckjinlopmbcaa
set_option linter.unusedVariables false
set_option maxRecDepth 100000
set_option linter.unusedSimpArgs false
open Go.Maps

/-- Which file each name has: the names rise. -/
abbrev Dir := List (Int × Nat)
def insD (x : Int × Nat) : Dir → Dir
  | [] => [x]
  | y :: r => if x.1 < y.1 then x :: y :: r else y :: insD x r
def rmD (l : Dir) (n : Int) : Dir := l.filter fun x => x.1 != n
def putD (l : Dir) (n : Int) (f : Nat) : Dir := insD (n, f) (rmD l n)
def atD (l : Dir) (n : Int) : Option Nat := (l.find? fun x => x.1 == n).map (·.2)
/-- Rising. -/
def Ris (l : Dir) : Prop := l.Pairwise fun x y => x.1 < y.1
theorem mem_insD {x y : Int × Nat} {l : Dir} : y ∈ insD x l ↔ y = x ∨ y ∈ l := by
  induction l with
  | nil => simp [insD]
  | cons a l ih =>
    unfold insD
    split
    · simp
    · simp only [List.mem_cons, ih]
      constructor
      · rintro (h | h | h) <;> simp [h]
      · rintro (h | h | h) <;> simp [h]
theorem mem_rmD {y : Int × Nat} {l : Dir} {n : Int} : y ∈ rmD l n ↔ y ∈ l ∧ y.1 ≠ n := by simp [rmD]
theorem mem_putD {y : Int × Nat} {l : Dir} {n : Int} {f : Nat} : y ∈ putD l n f ↔ y = (n, f) ∨ y ∈ l ∧ y.1 ≠ n := by unfold putD; rw [mem_insD, mem_rmD]
theorem Ris.ins {l : Dir} (h : Ris l) {x : Int × Nat} (hx : ∀ y ∈ l, y.1 ≠ x.1) : Ris (insD x l) := by
  induction l with
  | nil => simp [insD, Ris]
  | cons a l ih =>
    have h1 := List.pairwise_cons.1 h
    unfold insD
    split
    · rename_i hlt
      refine List.pairwise_cons.2 ⟨fun y hy => ?_, h⟩
      rcases List.mem_cons.1 hy with rfl | hy
      · exact hlt
      · have := h1.1 y hy; omega
    · rename_i hlt
      refine List.pairwise_cons.2 ⟨fun y hy => ?_, ih h1.2 (fun y hy => hx y (by simp [hy]))⟩
      rcases mem_insD.1 hy with rfl | hy
      · have := hx a (by simp); omega
      · exact h1.1 y hy
theorem Ris.rm {l : Dir} (h : Ris l) (n : Int) : Ris (rmD l n) := List.Pairwise.filter _ h
theorem Ris.put {l : Dir} (h : Ris l) (n : Int) (f : Nat) : Ris (putD l n f) := (h.rm n).ins (fun y hy => (mem_rmD.1 hy).2)
theorem Ris.inj {l : Dir} (h : Ris l) {n : Int} {f g : Nat} (h1 : (n, f) ∈ l) (h2 : (n, g) ∈ l) : f = g := by
  induction l with
  | nil => simp at h1
  | cons a l ih =>
    have h' := List.pairwise_cons.1 h
    rcases List.mem_cons.1 h1 with e1 | m1 <;> rcases List.mem_cons.1 h2 with e2 | m2
    · rw [← e1] at e2; injection e2 with _ e2; exact e2.symm
    · have := h'.1 _ m2; rw [← e1] at this; simp at this
    · have := h'.1 _ m1; rw [← e2] at this; simp at this
    · exact ih h'.2 m1 m2
theorem atD_some {l : Dir} {n : Int} {f : Nat} (h : atD l n = some f) : (n, f) ∈ l := by
  unfold atD at h
  obtain ⟨x, hx, rfl⟩ := Option.map_eq_some_iff.1 h
  have h1 := List.mem_of_find?_eq_some hx
  have h2 := List.find?_some hx
  have : x.1 = n := by simpa using h2
  rw [← this]; exact h1
theorem atD_none {l : Dir} {n : Int} (h : atD l n = none) {f : Nat} : (n, f) ∉ l := by
  unfold atD at h
  intro hm
  have := List.find?_eq_none.1 (Option.map_eq_none_iff.1 h) _ hm
  simp at this
theorem Ris.at_ {l : Dir} (h : Ris l) {n : Int} {f : Nat} (hm : (n, f) ∈ l) : atD l n = some f := by
  cases ha : atD l n with
  | none => exact absurd hm (atD_none ha)
  | some g => rw [h.inj hm (atD_some ha)]
theorem length_insD (x : Int × Nat) (l : Dir) : (insD x l).length = l.length + 1 := by
  induction l with
  | nil => rfl
  | cons a l ih => unfold insD; split <;> simp [ih]
theorem length_putD (l : Dir) (n : Int) (f : Nat) : (putD l n f).length ≤ l.length + 1 := by
  unfold putD; rw [length_insD]
  have := List.length_filter_le (fun x : Int × Nat => x.1 != n) l
  unfold rmD; omega

/-- A file: its bytes, and how many are kept. -/
structure PFile where
  b : List Int
  kept : Nat
/-- A change of the names. -/
inductive Chg
  | put (n : Int) (f : Nat)
  | ren (n : Int) (f : Nat) (to : Int)
  | rem (n : Int)
def Chg.app (l : Dir) : Chg → Dir
  | .put n f => putD l n f
  | .ren n f to => putD (rmD l n) to f
  | .rem n => rmD l n
/-- Its file is one that there is. -/
def ChgLt (many : Nat) : Chg → Prop
  | .put _ f => f < many
  | .ren _ f _ => f < many
  | .rem _ => True
theorem ChgLt.mono {a b : Nat} {c : Chg} (h : ChgLt a c) (hab : a ≤ b) : ChgLt b c := by cases c <;> first | exact Nat.lt_of_lt_of_le h hab | trivial
theorem Ris.app {l : Dir} (h : Ris l) (c : Chg) : Ris (c.app l) := by
  cases c with
  | put n f => exact h.put n f
  | ren n f to => exact (h.rm n).put to f
  | rem n => exact h.rm n
theorem length_app (l : Dir) (c : Chg) : (c.app l).length ≤ l.length + 1 := by
  have hf : ∀ (l : Dir) (n : Int), (rmD l n).length ≤ l.length := fun l n => List.length_filter_le _ _
  cases c with
  | put n f => exact length_putD l n f
  | ren n f to => have := length_putD (rmD l n) to f; have := hf l n; simp only [Chg.app]; omega
  | rem n => have := hf l n; simp only [Chg.app]; omega
/-- A disk. -/
structure FS where
  room : Int
  files : Nat → PFile
  many : Nat
  kept : Dir
  now : Dir
  waits : List Chg
  out : Bool
  armed : Bool
  left : Int
def updF (f : Nat → PFile) (p : Nat) (v : PFile) : Nat → PFile := fun q => if q = p then v else f q
theorem updF_same (f : Nat → PFile) (p : Nat) (v : PFile) : updF f p v p = v := by simp [updF]
theorem updF_ne (f : Nat → PFile) {p q : Nat} (v : PFile) (h : q ≠ p) : updF f p v q = f q := by simp [updF, h]
def zeroF (room : Int) : FS := ⟨room, fun _ => ⟨[], 0⟩, 0, [], [], [], false, false, 0⟩
def usedD (files : Nat → PFile) (l : Dir) : Nat := (l.map fun x => (files x.2).b.length).sum
def FS.used (S : FS) : Nat := usedD S.files S.now
def mayN (n : Int) : Prop := 0 ≤ n ∧ n < 1048576
instance (n : Int) : Decidable (mayN n) := by unfold mayN; exact inferInstance
def FS.did (S : FS) : FS := if S.armed = true then { S with left := S.left - 1, out := decide (S.left - 1 ≤ 0), armed := !decide (S.left - 1 ≤ 0) } else S
def FS.change (S : FS) (c : Chg) : FS := { S with now := c.app S.now, waits := S.waits ++ [c] }
/-- Why a name has no file to be used: 0: it has one. -/
def FS.why (S : FS) (n : Int) : Int := if S.out = true then 11 else if atD S.now n = none then 8 else 0
def FS.fid (S : FS) (n : Int) : Nat := (atD S.now n).getD 0
def FS.setF (S : FS) (f : Nat) (v : PFile) : FS := { S with files := updF S.files f v }
def FS.mkF (S : FS) (n : Int) : FS := if atD S.now n = none then ({ S with files := updF S.files S.many ⟨[], 0⟩, many := S.many + 1 } : FS).change (.put n S.many) else S
def FS.add (S : FS) (n : Int) (b : List Int) : FS := (S.setF (S.fid n) ⟨(S.files (S.fid n)).b ++ b, (S.files (S.fid n)).kept⟩).did
def FS.append (S : FS) (n : Int) (b : List Int) : FS × Int :=
  if S.out = true then (S, 11) else if ¬ mayN n then (S, 1) else if S.room < S.used + b.length then (S, 10) else ((S.mkF n).add n b, 0)
def FS.read (S : FS) (n : Int) : List Int × Int := if S.why n = 0 then ((S.files (S.fid n)).b, 0) else ([], S.why n)
def FS.sync (S : FS) (n : Int) : FS × Int := if S.why n = 0 then ((S.setF (S.fid n) ⟨(S.files (S.fid n)).b, (S.files (S.fid n)).b.length⟩).did, 0) else (S, S.why n)
def FS.rename (S : FS) (n to : Int) : FS × Int :=
  if S.why n ≠ 0 then (S, S.why n) else if ¬ mayN to then (S, 1) else if n ≠ to then ((S.change (.ren n (S.fid n) to)).did, 0) else (S.did, 0)
def FS.remove (S : FS) (n : Int) : FS × Int := if S.why n = 0 then ((S.change (.rem n)).did, 0) else (S, S.why n)
def FS.syncDir (S : FS) : FS × Int := if S.out = true then (S, 11) else (({ S with kept := S.now, waits := [] } : FS).did, 0)
def FS.names (S : FS) : List Int := S.now.map (·.1)
def FS.cut (S : FS) (n : Int) : FS := { S with armed := decide (1 ≤ n), left := n, out := S.out || decide (n < 1) }
def pickN (n : Int) (most : Nat) : Nat := if n < 0 then 0 else (n % ((most : Int) + 1)).toNat
def trimF (keep : List Int) (i : Nat) (x : PFile) : PFile :=
  let n := x.kept + if keep = [] then 0 else pickN (keep.getD (i % keep.length) 0) (x.b.length - x.kept)
  ⟨x.b.take n, n⟩
/-- What is left of the files, the first ones of the names done. -/
def trimAll (keep : List Int) (l : Dir) (files : Nat → PFile) : Nat → Nat → PFile
  | 0 => files
  | i + 1 => match l[i]? with
    | none => trimAll keep l files i
    | some x => updF (trimAll keep l files i) x.2 (trimF keep i (trimAll keep l files i x.2))
def FS.back (S : FS) (names : Int) : Dir := (S.waits.take (pickN names S.waits.length)).foldl Chg.app S.kept
def FS.crash (S : FS) (names : Int) (keep : List Int) : FS :=
  { S with kept := S.back names, now := S.back names, waits := [], out := false, armed := false, files := trimAll keep (S.back names) S.files (S.back names).length }
/-- What holds of a disk at any time. -/
structure FInv (S : FS) : Prop where
  kept : Ris S.kept
  now : Ris S.now
  lt : ∀ (x : Int × Nat), x ∈ S.now ∨ x ∈ S.kept → x.2 < S.many
  wlt : ∀ c ∈ S.waits, ChgLt S.many c
  le : ∀ (f : Nat), (S.files f).kept ≤ (S.files f).b.length
  eq : S.now = S.waits.foldl Chg.app S.kept
/-! ### names as a map -/
def dirE (fb : Nat → Nat) (x : Int × Nat) : Lit × DataW Unit := (.int .i64 x.1, .lit (.int .i64 (fb x.2)))
def dirD (fb : Nat → Nat) (l : Dir) : DataW Unit := .map (l.map (dirE fb))
theorem dirE_same (fb : Nat → Nat) (x : Int × Nat) (n : Int) : (dirE fb x).1.sameKey (.int .i64 n) = (x.1 == n) := by
  simp only [dirE, Lit.sameKey]
  by_cases h : x.1 = n <;> simp [h]
theorem dirE_insert (fb : Nat → Nat) (x : Int × Nat) (l : Dir) : DataW.insert (dirE fb x) (l.map (dirE fb)) = (insD x l).map (dirE fb) := by
  induction l with
  | nil => rfl
  | cons a l ih =>
    simp only [List.map_cons, DataW.insert, insD]
    rw [show (dirE fb x).1.before (dirE fb a).1 = decide (x.1 < a.1) from rfl]
    by_cases h : x.1 < a.1
    · simp [h]
    · simp [h, ih]
theorem dirE_filter (fb : Nat → Nat) (n : Int) (l : Dir) : (l.map (dirE fb)).filter (fun p => !p.1.sameKey (.int .i64 n)) = (rmD l n).map (dirE fb) := by
  induction l with
  | nil => rfl
  | cons a l ih =>
    rw [List.map_cons, List.filter_cons, dirE_same, rmD, List.filter_cons]
    by_cases h : a.1 = n
    · simp [h, ih, rmD]
    · simp [h, ih, rmD]
theorem dirD_put (fb : Nat → Nat) (l : Dir) (n : Int) (f : Nat) : (dirD fb l).put (.int .i64 n) (.lit (.int .i64 (fb f))) = dirD fb (putD l n f) := by
  show DataW.map (DataW.insert (dirE fb (n, f)) ((l.map (dirE fb)).filter (fun p => !p.1.sameKey (.int .i64 n)))) = _
  rw [dirE_filter]
  exact congrArg DataW.map (dirE_insert fb (n, f) _)
theorem dirD_del (fb : Nat → Nat) (l : Dir) (n : Int) : (dirD fb l).del (.int .i64 n) = dirD fb (rmD l n) := by
  show DataW.map ((l.map (dirE fb)).filter (fun p => !p.1.sameKey (.int .i64 n))) = _
  rw [dirE_filter]; rfl
theorem dirD_at (fb : Nat → Nat) (l : Dir) (n : Int) (z : DataW Unit) : (dirD fb l).atKey (.int .i64 n) z = match atD l n with | some f => .lit (.int .i64 (fb f)) | none => z := by
  unfold dirD DataW.atKey atD
  induction l with
  | nil => rfl
  | cons a l ih =>
    simp only [List.map_cons, List.find?_cons, dirE_same]
    by_cases h : a.1 = n
    · simp [h, dirE]
    · have h' : (a.1 == n) = false := by simpa using h
      simp only [h']; exact ih
theorem dirD_has (fb : Nat → Nat) (l : Dir) (n : Int) : Maps.has (dirD fb l) (.int .i64 n) = (atD l n).isSome := by
  unfold dirD atD
  rw [Maps.has_eq]
  induction l with
  | nil => rfl
  | cons a l ih =>
    simp only [List.map_cons, List.any_cons, List.find?_cons, dirE_same]
    by_cases h : a.1 = n
    · simp [h]
    · have h' : (a.1 == n) = false := by simpa using h
      simp only [h', Bool.false_or]; exact ih
theorem dirD_size (fb : Nat → Nat) (l : Dir) : Maps.size (dirD fb l) = l.length := by simp [dirD, Maps.size_eq]
theorem dirD_keys (fb : Nat → Nat) (l : Dir) : intKeys (dirD fb l) = l.map (·.1) := by
  simp [dirD, intKeys, List.map_map, Function.comp_def, dirE, intOf]
theorem dirD_congr {fb fb' : Nat → Nat} {l : Dir} (h : ∀ x ∈ l, fb' x.2 = fb x.2) : dirD fb' l = dirD fb l := by
  unfold dirD
  congr 1
  exact List.map_congr_left (fun x hx => by simp [dirE, h x hx])
theorem insD_last (x : Int × Nat) (l : Dir) (h : ∀ y ∈ l, y.1 < x.1) : insD x l = l ++ [x] := by
  induction l with
  | nil => rfl
  | cons a l ih =>
    have := h a (by simp)
    unfold insD
    rw [if_neg (by omega), ih (fun y hy => h y (by simp [hy]))]; rfl
theorem Ris.fold {l : Dir} (h : Ris l) : ∀ (a : Dir), Ris (a ++ l) → l.foldl (fun D x => putD D x.1 x.2) a = a ++ l := by
  induction l with
  | nil => intro a _; simp
  | cons x l ih =>
    intro a ha
    have h1 := List.pairwise_append.1 ha
    have e : putD a x.1 x.2 = a ++ [x] := by
      unfold putD
      have hr : rmD a x.1 = a := by
        unfold rmD
        rw [List.filter_eq_self]
        intro y hy
        have := h1.2.2 y hy x (by simp)
        simp; omega
      rw [hr]
      exact insD_last _ _ (fun y hy => h1.2.2 y hy x (by simp))
    rw [List.foldl_cons, e, ih (List.pairwise_cons.1 h).2 _ (by simpa using ha)]
    simp
/-- All of a map laid into an empty one. -/
theorem dirD_merge (fb : Nat → Nat) {l : Dir} (h : Ris l) : Lib.mergeD (.map []) (dirD fb l) = dirD fb l := by
  have key : ∀ (l a : Dir), (l.map (dirE fb)).foldl (fun D p => D.put p.1 p.2) (dirD fb a) = dirD fb (l.foldl (fun D x => putD D x.1 x.2) a) := by
    intro l
    induction l with
    | nil => intro a; rfl
    | cons x l ih =>
      intro a
      rw [List.map_cons, List.foldl_cons, List.foldl_cons, show (dirD fb a).put (dirE fb x).1 (dirE fb x).2 = dirD fb (putD a x.1 x.2) from dirD_put fb a x.1 x.2, ih]
  have := key l []
  rw [h.fold [] (by simpa using h)] at this
  exact this
/-- Names in whatever order, sorted. -/
theorem ris_sorted {l : Dir} (h : Ris l) {ss : List Int} (hp : ss.Perm (l.map (·.1))) : ss.mergeSort (fun x y => decide (x ≤ y)) = l.map (·.1) := by
  have hs : (l.map (·.1)).Pairwise (fun a b => (decide (a ≤ b)) = true) := by
    rw [List.pairwise_map]
    exact h.imp (fun {a b} hab => by simp; omega)
  have h1 : (ss.mergeSort (fun x y => decide (x ≤ y))).Pairwise (fun a b => (decide (a ≤ b)) = true) := List.pairwise_mergeSort (by intro a b c; simp; omega) (by intro a b; simp; omega) ss
  refine List.Perm.eq_of_pairwise (fun a b _ _ h1 h2 => ?_) h1 hs ((List.mergeSort_perm _ _).trans hp)
  simp at h1 h2; omega
end Go.Proofs.Ytpckjinlopmbcaa
