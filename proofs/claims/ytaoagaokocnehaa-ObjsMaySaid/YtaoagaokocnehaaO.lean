/-
  Package objs in plain Lean: what its functions compute.
-/
import Derived.Test.YtaoagaokocnehaaRd
namespace Go.Proofs.Ytaoagaokocnehaa
set_option linter.unusedVariables false
set_option linter.unusedSimpArgs false

structure St where
  kind : Int
  L : List Int
  isSealed : Bool
  to : Int
deriving DecidableEq
structure Op3 where
  code : Int
  a : Int
  b : Int
deriving DecidableEq

/-- A number within its bounds. -/
def cutI (n : Int) : Int := if n < -1099511627776 then -1099511627776 else if 1099511627776 < n then 1099511627776 else n
theorem cutI_range (n : Int) : -1099511627776 ≤ cutI n ∧ cutI n ≤ 1099511627776 := by unfold cutI; split <;> (try split) <;> omega

def pairsGo (least : Int) : Int → List Int → Bool
  | last, k :: v :: r => if k ≤ last ∨ 255 < k ∨ v < least ∨ 1099511627776 < v then false else pairsGo least k r
  | _, _ => true
def pairsB (l : List Int) (least : Int) : Bool := pairsGo least (-1) l && (decide (l.length % 2 = 0) && decide (l.length ≤ 128))
def withinB (l : List Int) : Bool := !l.any (fun n => n != cutI n)
def mayB (s : St) : Bool :=
  if s.to < 0 ∨ 3 ≤ s.to ∨ (s.isSealed = false ∧ s.to ≠ 0) then false
  else if s.kind = 0 ∨ s.kind = 1 then decide (s.L.length = 1) && withinB s.L
  else if s.kind = 2 ∨ s.kind = 3 then decide (s.L.length ≤ 64) && withinB s.L
  else if s.kind = 4 then pairsB s.L (-1099511627776)
  else if s.kind = 5 then pairsB s.L 0
  else false
def fitsB (o : Op3) : Bool := decide (0 ≤ o.code) && decide (o.code ≤ 10) && (o.a == cutI o.a) && (o.b == cutI o.b)

def findI : List Int → Int → Nat
  | k :: _ :: r, key => if k < key then 2 + findI r key else 0
  | [k], key => if k < key then 2 else 0
  | [], _ => 0
def foundB (l : List Int) (key : Int) : Bool := decide (findI l key < l.length) && (l.getD (findI l key) 0 == key)
def hasI (l : List Int) (key : Int) : Int := if foundB l key then l.getD (findI l key + 1) 0 else -1
def putL (l : List Int) (key n : Int) : List Int := if foundB l key then l.set (findI l key + 1) n else if 128 ≤ l.length then l else l.take (findI l key) ++ [key, n] ++ l.drop (findI l key)
def putB (l : List Int) (key : Int) : Bool := foundB l key || decide (l.length < 128)
def delL (l : List Int) (key : Int) : List Int := l.take (findI l key) ++ l.drop (findI l key + 2)

theorem findI_even : ∀ (l : List Int) (key : Int), findI l key % 2 = 0
  | k :: _ :: r, key => by
    unfold findI
    split
    · have := findI_even r key; omega
    · rfl
  | [k], key => by unfold findI; split <;> rfl
  | [], _ => rfl
theorem findI_le : ∀ (l : List Int) (key : Int), l.length % 2 = 0 → findI l key ≤ l.length
  | k :: v :: r, key, h => by
    have := findI_le r key (by simp at h; omega)
    unfold findI
    split <;> simp <;> omega
  | [k], key, h => by simp at h
  | [], _, _ => Nat.le_refl _

def numberS (s : St) (o : Op3) : St × Int :=
  if o.code = 7 then (s, s.L.getD 0 0)
  else if s.kind = 0 ∧ o.code = 1 then ({ s with L := [cutI (s.L.getD 0 0 + cutI o.a)] }, s.L.getD 0 0)
  else if s.kind = 1 ∧ o.code = 2 then ({ s with L := [cutI o.a] }, s.L.getD 0 0)
  else (s, 0)
def lineS (s : St) (o : Op3) : St × Int :=
  if o.code = 7 then (s, s.L.length)
  else if o.code = 3 ∧ s.L.length < 64 then ({ s with L := s.L ++ [cutI o.a] }, s.L.length + 1)
  else if o.code = 3 ∨ (o.code = 4 ∧ s.L.length = 0) then (s, -1)
  else if o.code ≠ 4 then (s, 0)
  else if s.kind = 2 then ({ s with L := s.L.drop 1 }, s.L.getD 0 0)
  else ({ s with L := s.L.take (s.L.length - 1) }, s.L.getD (s.L.length - 1) 0)
def storeS (s : St) (o : Op3) : St × Int :=
  if ¬ (o.code = 7 ∨ o.code = 6 ∨ o.code = 5) then (s, 0)
  else if o.a < 0 ∨ 255 < o.a then (s, -1)
  else if o.code = 6 ∧ foundB s.L o.a = true then ({ s with L := delL s.L o.a }, hasI s.L o.a)
  else if o.code = 5 then (if putB s.L o.a = true then ({ s with L := putL s.L o.a (cutI o.b) }, hasI s.L o.a) else (s, -2))
  else (s, hasI s.L o.a)
def moveS (s : St) (o : Op3) : St × Int :=
  if o.a < 0 ∨ 65536 ≤ o.a ∨ o.b < 0 then (s, 0)
  else if hasI s.L (o.a / 256) < o.b then (s, 0)
  else if o.a / 256 = o.a % 256 then (s, 1)
  else if putB s.L (o.a % 256) = false ∨ 1099511627776 < max (hasI s.L (o.a % 256)) 0 + o.b then (s, 0)
  else ({ s with L := putL (putL s.L (o.a % 256) (max (hasI s.L (o.a % 256)) 0 + o.b)) (o.a / 256) (hasI s.L (o.a / 256) - o.b) }, 1)
def ledgerS (s : St) (o : Op3) : St × Int :=
  if o.code = 9 then moveS s o
  else if o.code ≠ 7 ∧ o.code ≠ 8 then (s, 0)
  else if o.a < 0 ∨ 255 < o.a then (s, -1)
  else if o.code = 7 then (s, hasI s.L o.a)
  else if o.b < 0 then (s, -1)
  else if putB s.L o.a = true then ({ s with L := putL s.L o.a (cutI (max (hasI s.L o.a) 0 + cutI o.b)) }, cutI (max (hasI s.L o.a) 0 + cutI o.b))
  else (s, -2)
def stepS (s : St) (o : Op3) : St × Int :=
  if mayB s = false then (s, 0)
  else if s.isSealed = true then (s, -1125899906842624)
  else if o.code = 10 then ({ s with isSealed := true, to := if 0 ≤ o.a ∧ o.a < 3 then o.a else s.to }, 0)
  else if s.kind = 0 ∨ s.kind = 1 then numberS s o
  else if s.kind = 2 ∨ s.kind = 3 then lineS s o
  else if s.kind = 4 then storeS s o
  else ledgerS s o
def foldS (s : St) : List Op3 → St × List Int
  | [] => (s, [])
  | o :: r => let (t, n) := stepS s o; let (u, l) := foldS t r; (u, n :: l)
def startS (kind : Int) : St :=
  if kind = 0 ∨ kind = 1 then ⟨kind, [0], false, 0⟩
  else if kind = 2 ∨ kind = 3 ∨ kind = 4 ∨ kind = 5 then ⟨kind, [], false, 0⟩
  else ⟨0, [], false, 0⟩
end Go.Proofs.Ytaoagaokocnehaa
