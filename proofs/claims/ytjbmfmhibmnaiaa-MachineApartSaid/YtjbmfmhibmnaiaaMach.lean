/-
  Package machine: each method's contract over an abstract machine (cells, steps).
-/
import Derived.Test.YtjbmfmhibmnaiaaProg
import Derived.Test.YtjbmfmhibmnaiaaB
import Derived.BigQuiet
import Derived.Outline
namespace Go.Proofs.Ytjbmfmhibmnaiaa
set_option linter.unusedVariables false
set_option linter.unusedSimpArgs false
open Go.RowKit

/-- An abstract machine. -/
structure MS where
  cells : List Int
  steps : List Int
deriving DecidableEq

def ints (l : List Int) : List Value := l.map (.int .i64)
theorem ints_length (l : List Int) : (ints l).length = l.length := by simp [ints]
theorem ints_get (l : List Int) (i : Nat) (h : i < l.length) : (ints l)[i]? = some (.int .i64 (l.getD i 0)) := by
  simp [ints, List.getElem?_eq_getElem h, List.getD_eq_getElem?_getD]
theorem ints_set (l : List Int) (i : Nat) (v : Int) : (ints l).set i (.int .i64 v) = ints (l.set i v) := by
  simp [ints, List.map_set]

structure Mach (w : World) (bm : Nat) (vc vs : Value) (M : MS) : Prop where
  blk : Blk w bm #[vc, vs] 57
  cells : Own w 3 1 vc M.cells.length (ints M.cells)
  steps : Own w 3 1 vs M.steps.length (ints M.steps)
  apart : ∀ k, vc.ownBlock = some k → vs.ownBlock ≠ some k
  lenC : M.cells.length ≤ 17592186044416
  lenS : M.steps.length ≤ 17592186044416

/-- The blocks of a machine. -/
def machF (bm : Nat) (vc vs : Value) (k : Nat) : Prop := k = bm ∨ vc.ownBlock = some k ∨ vs.ownBlock = some k

def MS.step (M : MS) (p : Int) : MS := if 0 ≤ p ∧ p < M.steps.length then { M with steps := M.steps.set p.toNat (wrap64 (M.steps.getD p.toNat 0 + 1)) } else M
def MS.has (M : MS) (c : Int) : Prop := 0 ≤ c ∧ c < M.cells.length
instance (M : MS) (c : Int) : Decidable (M.has c) := by unfold MS.has; infer_instance
def MS.get (M : MS) (c : Int) : Int := if M.has c then M.cells.getD c.toNat 0 else 0
def MS.put (M : MS) (c n : Int) : MS := if M.has c then { M with cells := M.cells.set c.toNat n } else M
def MS.stepsOf (M : MS) (p : Int) : Int := if 0 ≤ p ∧ p < M.steps.length then M.steps.getD p.toNat 0 else 0
theorem MS.step_cells (M : MS) (p : Int) : (M.step p).cells = M.cells := by unfold MS.step; split <;> rfl
theorem MS.step_has (M : MS) (p c : Int) : (M.step p).has c ↔ M.has c := by simp [MS.has, MS.step_cells]
theorem MS.step_get (M : MS) (p c : Int) : (M.step p).get c = M.get c := by simp [MS.get, MS.step_has, MS.step_cells]
theorem MS.step_len (M : MS) (p : Int) : (M.step p).steps.length = M.steps.length := by unfold MS.step; split <;> simp
theorem MS.put_steps (M : MS) (c n : Int) : (M.put c n).steps = M.steps := by unfold MS.put; split <;> rfl
theorem MS.put_len (M : MS) (c n : Int) : (M.put c n).cells.length = M.cells.length := by unfold MS.put; split <;> simp

namespace Mach
variable {w w' : World} {bm : Nat} {vc vs : Value} {M : MS}
theorem lt (h : Mach w bm vc vs M) {k : Nat} (hk : machF bm vc vs k) : k < w.heap.size := by
  rcases hk with rfl | hk | hk
  · exact h.blk.lt
  · exact own_lt h.cells hk
  · exact own_lt h.steps hk
theorem neC (h : Mach w bm vc vs M) : vc.ownBlock ≠ some bm := own_blk_ne h.cells h.blk (by decide)
theorem neS (h : Mach w bm vc vs M) : vs.ownBlock ≠ some bm := own_blk_ne h.steps h.blk (by decide)
theorem keeps {G : Nat → Prop} (h : Mach w bm vc vs M) (k : Keeps G w w') (hd : ∀ k, machF bm vc vs k → ¬ G k) : Mach w' bm vc vs M :=
  ⟨h.blk.keeps k (hd _ (.inl rfl)), own_keeps h.cells k (fun b hb => hd _ (.inr (.inl hb))), own_keeps h.steps k (fun b hb => hd _ (.inr (.inr hb))), h.apart, h.lenC, h.lenS⟩
theorem alloc (h : Mach w bm vc vs M) (o : Obj) : Mach (w.alloc o) bm vc vs M := h.keeps (G := fun _ => False) ((Keeps.refl _ w).alloc o) (by simp)
theorem drew (h : Mach w bm vc vs M) : Mach w.drew bm vc vs M := ⟨h.blk.drew, h.cells, h.steps, h.apart, h.lenC, h.lenS⟩
theorem drewN (h : Mach w bm vc vs M) (n : Nat) : Mach (w.drewN n) bm vc vs M := ⟨h.blk.drewN n, h.cells, h.steps, h.apart, h.lenC, h.lenS⟩
/-- A store into a block that is none of the machine's. -/
theorem other (h : Mach w bm vc vs M) {a : Addr} (ha : ¬ machF bm vc vs a.block) (v : Value) : Mach (w.setCell a v) bm vc vs M :=
  h.keeps (Keeps.one w a v) (fun k hk e => ha (e ▸ hk))
theorem storeC {gc nc cc : Nat} (h : Mach w bm (.slice (some ⟨gc, 0, none⟩) nc cc) vs M) (i : Nat) (v : Int) : Mach (w.setCell ⟨gc, i, none⟩ (.int .i64 v)) bm (.slice (some ⟨gc, 0, none⟩) nc cc) vs { M with cells := M.cells.set i v } := by
  have hn : nc = M.cells.length := by
    rcases h.cells.2 with ⟨h1, _⟩ | ⟨g, cap, cur, h1, _⟩
    · simp at h1
    · simp at h1; omega
  subst hn
  have hbm : bm ≠ gc := fun e => h.neC (by simp [Value.ownBlock, e])
  have hv : vs.ownBlock ≠ some gc := h.apart gc rfl
  refine ⟨h.blk.other hbm _, ?_, ?_, h.apart, by simpa using h.lenC, h.lenS⟩
  · have := World.ownsRow.stored h.cells i (.int .i64 v)
    rw [ints_set] at this
    simpa using this.1
  · exact own_keeps h.steps (Keeps.one w _ _) (fun b hb e => hv (by rw [hb]; exact congrArg some e))
theorem storeS {gs ns cs : Nat} (h : Mach w bm vc (.slice (some ⟨gs, 0, none⟩) ns cs) M) (i : Nat) (v : Int) : Mach (w.setCell ⟨gs, i, none⟩ (.int .i64 v)) bm vc (.slice (some ⟨gs, 0, none⟩) ns cs) { M with steps := M.steps.set i v } := by
  have hn : ns = M.steps.length := by
    rcases h.steps.2 with ⟨h1, _⟩ | ⟨g, cap, cur, h1, _⟩
    · simp at h1
    · simp at h1; omega
  subst hn
  have hbm : bm ≠ gs := fun e => h.neS (by simp [Value.ownBlock, e])
  have hv : vc.ownBlock ≠ some gs := fun e => h.apart gs e rfl
  refine ⟨h.blk.other hbm _, ?_, ?_, h.apart, h.lenC, by simpa using h.lenS⟩
  · exact own_keeps h.cells (Keeps.one w _ _) (fun b hb e => hv (by rw [hb]; exact congrArg some e))
  · have := World.ownsRow.stored h.steps i (.int .i64 v)
    rw [ints_set] at this
    simpa using this.1
theorem ofLenC (h : Mach w bm vc vs M) : ∃ a c, vc = .slice a M.cells.length c := by
  rcases h.cells.2 with ⟨rfl, e⟩ | ⟨g, cap, cur, rfl, _⟩
  · exact ⟨none, 0, by rw [e]⟩
  · exact ⟨_, cap, rfl⟩
theorem ofLenS (h : Mach w bm vc vs M) : ∃ a c, vs = .slice a M.steps.length c := by
  rcases h.steps.2 with ⟨rfl, e⟩ | ⟨g, cap, cur, rfl, _⟩
  · exact ⟨none, 0, by rw [e]⟩
  · exact ⟨_, cap, rfl⟩
end Mach
end Go.Proofs.Ytjbmfmhibmnaiaa
