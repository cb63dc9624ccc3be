/-
  Package machine: each method's contract over an abstract machine (cells, steps).
-/
import Derived.Test.YtjfenjnnpikkdaaProg
import Derived.BigQuiet
import Derived.Outline
import Derived.Deep.OwnRows
import Derived.Test.YtjfenjnnpikkdaaKa
namespace Go.Proofs.Ytjfenjnnpikkdaa
set_option linter.unusedVariables false
set_option maxRecDepth 100000
set_option linter.unusedSimpArgs false
open Go.RowKit

/-- An abstract machine. -/
structure MS where
  cells : List Int
  steps : List Int
  deriving DecidableEq

structure Mach (w : World) (bm : Nat) (vc vs : Value) (M : MS) : Prop where
  blk : Blk w bm #[vc, vs] 108
  cells : Own w 3 1 vc M.cells.length (ints M.cells)
  steps : Own w 3 1 vs M.steps.length (ints M.steps)
  apart : ∀ k, vc.ownBlock = some k → vs.ownBlock ≠ some k
  lenC : M.cells.length ≤ 17592186044416
  lenS : M.steps.length ≤ 17592186044416

/-- The blocks of a machine. -/
def machF (bm : Nat) (vc vs : Value) (k : Nat) : Prop := k = bm ∨ vc.ownBlock = some k ∨ vs.ownBlock = some k

def MS.step (M : MS) (p : Int) : MS := if 0 ≤ p ∧ p < M.steps.length then { M with steps := M.steps.set p.toNat (wrap64 (M.steps.getD p.toNat 0 + 1)) } else M
def MS.has (M : MS) (c : Int) : Prop := 0 ≤ c ∧ c < M.cells.length
instance (M : MS) (c : Int) : Decidable (M.has c) := by unfold MS.has; infer_instance
def MS.get (M : MS) (c : Int) : Int := if M.has c then M.cells.getD c.toNat 0 else 0
def MS.put (M : MS) (c n : Int) : MS := if M.has c then { M with cells := M.cells.set c.toNat n } else M
def MS.stepsOf (M : MS) (p : Int) : Int := if 0 ≤ p ∧ p < M.steps.length then M.steps.getD p.toNat 0 else 0
theorem MS.step_cells (M : MS) (p : Int) : (M.step p).cells = M.cells := by unfold MS.step; split <;> rfl
theorem MS.step_has (M : MS) (p c : Int) : (M.step p).has c ↔ M.has c := by simp [MS.has, MS.step_cells]
theorem MS.step_get (M : MS) (p c : Int) : (M.step p).get c = M.get c := by simp [MS.get, MS.step_has, MS.step_cells]
theorem MS.step_len (M : MS) (p : Int) : (M.step p).steps.length = M.steps.length := by unfold MS.step; split <;> simp
theorem MS.put_steps (M : MS) (c n : Int) : (M.put c n).steps = M.steps := by unfold MS.put; split <;> rfl
theorem MS.put_len (M : MS) (c n : Int) : (M.put c n).cells.length = M.cells.length := by unfold MS.put; split <;> simp

namespace Mach
variable {w w' : World} {bm : Nat} {vc vs : Value} {M : MS}
theorem lt (h : Mach w bm vc vs M) {k : Nat} (hk : machF bm vc vs k) : k < w.heap.size := by
  rcases hk with rfl | hk | hk
  · exact h.blk.lt
  · exact own_lt h.cells hk
  · exact own_lt h.steps hk
theorem neC (h : Mach w bm vc vs M) : vc.ownBlock ≠ some bm := own_blk_ne h.cells h.blk (by decide)
theorem neS (h : Mach w bm vc vs M) : vs.ownBlock ≠ some bm := own_blk_ne h.steps h.blk (by decide)
theorem keeps {G : Nat → Prop} (h : Mach w bm vc vs M) (k : Keeps G w w') (hd : ∀ k, machF bm vc vs k → ¬ G k) : Mach w' bm vc vs M :=
  ⟨h.blk.keeps k (hd _ (.inl rfl)), own_keeps h.cells k (fun b hb => hd _ (.inr (.inl hb))), own_keeps h.steps k (fun b hb => hd _ (.inr (.inr hb))), h.apart, h.lenC, h.lenS⟩
theorem alloc (h : Mach w bm vc vs M) (o : Obj) : Mach (w.alloc o) bm vc vs M := h.keeps (G := fun _ => False) ((Keeps.refl _ w).alloc o) (by simp)
theorem drew (h : Mach w bm vc vs M) : Mach w.drew bm vc vs M := ⟨h.blk.drew, h.cells, h.steps, h.apart, h.lenC, h.lenS⟩
theorem drewN (h : Mach w bm vc vs M) (n : Nat) : Mach (w.drewN n) bm vc vs M := ⟨h.blk.drewN n, h.cells, h.steps, h.apart, h.lenC, h.lenS⟩
/-- A store into a block that is none of the machine's. -/
theorem other (h : Mach w bm vc vs M) {a : Addr} (ha : ¬ machF bm vc vs a.block) (v : Value) : Mach (w.setCell a v) bm vc vs M :=
  h.keeps (Keeps.one w a v) (fun k hk e => ha (e ▸ hk))
theorem storeC {gc nc cc : Nat} (h : Mach w bm (.slice (some ⟨gc, 0, none⟩) nc cc) vs M) (i : Nat) (v : Int) : Mach (w.setCell ⟨gc, i, none⟩ (.int .i64 v)) bm (.slice (some ⟨gc, 0, none⟩) nc cc) vs { M with cells := M.cells.set i v } := by
  have hn : nc = M.cells.length := by
    rcases h.cells.2 with ⟨h1, _⟩ | ⟨g, cap, cur, h1, _⟩
    · simp at h1
    · simp at h1; omega
  subst hn
  have hbm : bm ≠ gc := fun e => h.neC (by simp [Value.ownBlock, e])
  have hv : vs.ownBlock ≠ some gc := h.apart gc rfl
  refine ⟨h.blk.other hbm _, ?_, ?_, h.apart, by simpa using h.lenC, h.lenS⟩
  · have := World.ownsRow.stored h.cells i (.int .i64 v)
    rw [ints_set] at this
    simpa using this.1
  · exact own_keeps h.steps (Keeps.one w _ _) (fun b hb e => hv (by rw [hb]; exact congrArg some e))
theorem storeS {gs ns cs : Nat} (h : Mach w bm vc (.slice (some ⟨gs, 0, none⟩) ns cs) M) (i : Nat) (v : Int) : Mach (w.setCell ⟨gs, i, none⟩ (.int .i64 v)) bm vc (.slice (some ⟨gs, 0, none⟩) ns cs) { M with steps := M.steps.set i v } := by
  have hn : ns = M.steps.length := by
    rcases h.steps.2 with ⟨h1, _⟩ | ⟨g, cap, cur, h1, _⟩
    · simp at h1
    · simp at h1; omega
  subst hn
  have hbm : bm ≠ gs := fun e => h.neS (by simp [Value.ownBlock, e])
  have hv : vc.ownBlock ≠ some gs := fun e => h.apart gs e rfl
  refine ⟨h.blk.other hbm _, ?_, ?_, h.apart, h.lenC, by simpa using h.lenS⟩
  · exact own_keeps h.cells (Keeps.one w _ _) (fun b hb e => hv (by rw [hb]; exact congrArg some e))
  · have := World.ownsRow.stored h.steps i (.int .i64 v)
    rw [ints_set] at this
    simpa using this.1
theorem ofLenC (h : Mach w bm vc vs M) : ∃ a c, vc = .slice a M.cells.length c := by
  rcases h.cells.2 with ⟨rfl, e⟩ | ⟨g, cap, cur, rfl, _⟩
  · exact ⟨none, 0, by rw [e]⟩
  · exact ⟨_, cap, rfl⟩
theorem ofLenS (h : Mach w bm vc vs M) : ∃ a c, vs = .slice a M.steps.length c := by
  rcases h.steps.2 with ⟨rfl, e⟩ | ⟨g, cap, cur, rfl, _⟩
  · exact ⟨none, 0, by rw [e]⟩
  · exact ⟨_, cap, rfl⟩
end Mach
end Go.Proofs.Ytjfenjnnpikkdaa
/- Package machine: the walks of its methods. -/
namespace Go.Proofs.Ytjfenjnnpikkdaa
set_option linter.unusedVariables false
set_option maxRecDepth 100000
set_option linter.unusedSimpArgs false
open Go.RowKit

theorem hmf : ∀ (fn : Fn) (first cap : Array Value) (w : World), (Instr.makeFunc fn first cap).run Try.prog w = .ok (.func fn first cap) w := fun _ _ _ _ => rfl

/-- What the walks ask of a process that is there. -/
theorem Mach.viewS {w : World} {bm : Nat} {vc vs : Value} {M : MS} (h : Mach w bm vc vs M) {p : Int} (hp : 0 ≤ p ∧ p < M.steps.length) :
    ∃ gs cs q s, p = (q : Nat) ∧ q < M.steps.length ∧ vs = .slice (some ⟨gs, 0, none⟩) M.steps.length cs ∧ w.cell? ⟨gs, q, none⟩ = some (.int .i64 s) ∧ w.frozen? ⟨gs, q, none⟩ = false ∧ gs < w.heap.size ∧ bm ≠ gs ∧ M.step p = { M with steps := M.steps.set q (wrap64 (s + 1)) } := by
  obtain ⟨q, rfl⟩ := Int.eq_ofNat_of_zero_le hp.1
  have hq : q < M.steps.length := by have := hp.2; omega
  obtain ⟨gs, cs, rfl, _⟩ := own_open h.steps (by omega)
  refine ⟨gs, cs, q, M.steps.getD q 0, rfl, hq, rfl, ?_, World.ownsRow.frozenAt h.steps q, own_lt h.steps rfl, fun e => h.neS (by simp [Value.ownBlock, e]), ?_⟩
  · rw [World.ownsRow.cellAt h.steps q (by omega), ints_get _ _ hq]
  · unfold MS.step
    rw [if_pos hp]
    simp
theorem Mach.viewC {w : World} {bm : Nat} {vc vs : Value} {M : MS} (h : Mach w bm vc vs M) {c : Int} (hp : M.has c) :
    ∃ gc cc q n0, c = (q : Nat) ∧ q < M.cells.length ∧ vc = .slice (some ⟨gc, 0, none⟩) M.cells.length cc ∧ w.cell? ⟨gc, q, none⟩ = some (.int .i64 n0) ∧ w.frozen? ⟨gc, q, none⟩ = false ∧ gc < w.heap.size ∧ bm ≠ gc ∧ M.get c = n0 ∧ ∀ n, M.put c n = { M with cells := M.cells.set q n } := by
  obtain ⟨q, rfl⟩ := Int.eq_ofNat_of_zero_le hp.1
  have hq : q < M.cells.length := by have := hp.2; omega
  obtain ⟨gc, cc, rfl, _⟩ := own_open h.cells (by omega)
  refine ⟨gc, cc, q, M.cells.getD q 0, rfl, hq, rfl, ?_, World.ownsRow.frozenAt h.cells q, own_lt h.cells rfl, fun e => h.neC (by simp [Value.ownBlock, e]), ?_, ?_⟩
  · rw [World.ownsRow.cellAt h.cells q (by omega), ints_get _ _ hq]
  · unfold MS.get
    rw [if_pos hp]
    simp
  · intro n
    unfold MS.put
    rw [if_pos hp]
    simp


theorem Mach.stepStore {w : World} {bm : Nat} {vc : Value} {gs cs : Nat} {M : MS} {n : Nat} (h : Mach w bm vc (.slice (some ⟨gs, 0, none⟩) n cs) M) (i : Nat) (v : Int) :
    Keeps (machF bm vc (.slice (some ⟨gs, 0, none⟩) n cs)) w (w.setCell ⟨gs, i, none⟩ (.int .i64 v)) :=
  (Keeps.refl _ w).setCell (.inl (.inr (.inr rfl))) _

set_option maxHeartbeats 800000 in
theorem mach_access_out {w : World} {bm : Nat} {vc vs : Value} {M : MS} (h : Mach w bm vc vs M) (p c : Int) (f : Value) (hc : ¬ M.has c) :
    Calls Try.prog 71 #[.pointer (some ⟨bm, 0, none⟩), .int .i64 p, .int .i64 c, f] w fun e w' =>
      e = .returned (.tuple #[]) ∧ Mach w' bm vc vs (M.step p) ∧ Keeps (machF bm vc vs) w w' := by
  have h0 : w.cell? ⟨bm, 0, none⟩ = some vc := by rw [h.blk.cell]; rfl
  have h1 : w.cell? ⟨bm, 1, none⟩ = some vs := by rw [h.blk.cell]; rfl
  have hb := h.blk.lt
  have hlc := h.lenC
  have hls := h.lenS
  have hc' : ¬ 0 ≤ c ∨ (0 ≤ c ∧ ¬ c < M.cells.length) := by unfold MS.has at hc; omega
  clear hc
  by_cases hp : 0 ≤ p ∧ p < M.steps.length
  · obtain ⟨gs, cs, q, s, rfl, hq, rfl, hs, hsf, hsl, hsb, hst⟩ := h.viewS hp
    obtain ⟨ac, cc, rfl⟩ := h.ofLenC
    rw [hst]
    have H := Lib.hid h
    clear h hst
    rcases hc' with hc | ⟨hc, hc2⟩
    all_goals
      go_enter Try.func71, Try.ntmps71
      go_wp2
      go_end0
      exact ⟨rfl, H.out.storeS _ _, H.out.stepStore _ _⟩
  · have hst : M.step p = M := by unfold MS.step; rw [if_neg hp]
    obtain ⟨ac, cc, rfl⟩ := h.ofLenC
    obtain ⟨as0, cs, rfl⟩ := h.ofLenS
    rw [hst]
    have H := Lib.hid h
    clear h hst
    have hp' : ¬ 0 ≤ p ∨ (0 ≤ p ∧ ¬ p < M.steps.length) := by omega
    clear hp
    rcases hp' with hp | ⟨hp, hp2⟩ <;> rcases hc' with hc | ⟨hc, hc2⟩
    all_goals
      go_enter Try.func71, Try.ntmps71
      go_wp2
      go_end0
      exact ⟨rfl, H.out, Keeps.refl _ _⟩

set_option maxHeartbeats 800000 in
theorem mach_access_in {w : World} {bm : Nat} {vc vs : Value} {M : MS} (h : Mach w bm vc vs M) (p : Int) (gc nc cc q : Nat) (hvc : vc = .slice (some ⟨gc, 0, none⟩) nc cc) (hq : q < M.cells.length) (k : Nat) (caps : Array Value) (R : World → Prop)
    (hk : ∀ args W, (callFunc k args).run Try.prog W = .ok (.enter k args) W)
    (hcl : ∀ W, Mach W bm vc vs (M.step p) → Keeps (machF bm vc vs) w W → Calls Try.prog k (#[.pointer (some ⟨gc, q, none⟩)] ++ caps) W fun e w' => e = .returned (.tuple #[]) ∧ R w') :
    Calls Try.prog 71 #[.pointer (some ⟨bm, 0, none⟩), .int .i64 p, .int .i64 q, .func (Fn.func k) #[] caps] w fun e w' =>
      e = .returned (.tuple #[]) ∧ R w' := by
  have h0 : w.cell? ⟨bm, 0, none⟩ = some vc := by rw [h.blk.cell]; rfl
  have h1 : w.cell? ⟨bm, 1, none⟩ = some vs := by rw [h.blk.cell]; rfl
  have hb := h.blk.lt
  have hlc := h.lenC
  have hls := h.lenS
  by_cases hp : 0 ≤ p ∧ p < M.steps.length
  · obtain ⟨gs, cs, r, s, rfl, hr, rfl, hs, hsf, hsl, hsb, hst⟩ := h.viewS hp
    have hcl' := hcl (w.setCell ⟨gs, r, none⟩ (.int .i64 (wrap64 (s + 1)))) (by rw [hst]; exact h.storeS _ _) (h.stepStore _ _)
    obtain ⟨a1, c1, hvc'⟩ := h.ofLenC
    rw [hvc] at hvc'
    injection hvc' with e1 e2 e3
    subst e1 e2
    subst hvc
    have H := Lib.hid h
    have HC := Lib.hid hcl'
    clear h hst hcl hcl'
    go_enter Try.func71, Try.ntmps71
    go_wp2_with fail
    refine HC.out.mono ?_
    rintro e w' ⟨rfl, hR⟩
    go_wp2
    go_end0
    exact ⟨rfl, hR⟩
  · have hst : M.step p = M := by unfold MS.step; rw [if_neg hp]
    have hcl' := hcl w (by rw [hst]; exact h) (Keeps.refl _ _)
    obtain ⟨a1, c1, hvc'⟩ := h.ofLenC
    rw [hvc] at hvc'
    injection hvc' with e1 e2 e3
    subst e1 e2
    subst hvc
    obtain ⟨as0, cs, rfl⟩ := h.ofLenS
    have HC := Lib.hid hcl'
    clear h hst hcl hcl'
    have hp' : ¬ 0 ≤ p ∨ (0 ≤ p ∧ ¬ p < M.steps.length) := by omega
    clear hp
    rcases hp' with hp | ⟨hp, hp2⟩
    all_goals
      go_enter Try.func71, Try.ntmps71
      go_wp2_with fail
      refine HC.out.mono ?_
      rintro e w' ⟨rfl, hR⟩
      go_wp2
      go_end0
      exact ⟨rfl, hR⟩

/-! The closures. -/
theorem call_read (args : Array Value) (W : World) : (callFunc 81 args).run Try.prog W = .ok (.enter 81 args) W := by
  go_simp
theorem cl_read (W : World) (gc q gn : Nat) (c z : Int) (hc : W.cell? ⟨gc, q, none⟩ = some (.int .i64 c)) (hn : W.cell? ⟨gn, 0, none⟩ = some (.int .i64 z)) (hf : W.frozen? ⟨gn, 0, none⟩ = false) :
    Calls Try.prog 81 #[.pointer (some ⟨gc, q, none⟩), .pointer (some ⟨gn, 0, none⟩)] W fun e w' => e = .returned (.tuple #[]) ∧ w' = W.setCell ⟨gn, 0, none⟩ (.int .i64 c) := by
  go_enter Try.func81, Try.ntmps81
  go_wp2
  go_end0
  exact ⟨rfl, rfl⟩
theorem cl_write (W : World) (gc q gn : Nat) (c z : Int) (hc : W.cell? ⟨gc, q, none⟩ = some (.int .i64 c)) (hf : W.frozen? ⟨gc, q, none⟩ = false) (hn : W.cell? ⟨gn, 0, none⟩ = some (.int .i64 z)) :
    Calls Try.prog 72 #[.pointer (some ⟨gc, q, none⟩), .pointer (some ⟨gn, 0, none⟩)] W fun e w' => e = .returned (.tuple #[]) ∧ w' = W.setCell ⟨gc, q, none⟩ (.int .i64 z) := by
  go_enter Try.func72, Try.ntmps72
  go_wp2
  go_end0
  exact ⟨rfl, rfl⟩
theorem cl_swap_yes (W : World) (gc q gi go_ gn : Nat) (c z : Int) (b : Bool) (hc : W.cell? ⟨gc, q, none⟩ = some (.int .i64 c)) (hf : W.frozen? ⟨gc, q, none⟩ = false) (ho : W.cell? ⟨go_, 0, none⟩ = some (.int .i64 c)) (hn : W.cell? ⟨gn, 0, none⟩ = some (.int .i64 z)) (hw : W.cell? ⟨gi, 0, none⟩ = some (.bool b)) (hwf : W.frozen? ⟨gi, 0, none⟩ = false) (hne : gi ≠ gc) (hne2 : gi ≠ gn) :
    Calls Try.prog 99 #[.pointer (some ⟨gc, q, none⟩), .pointer (some ⟨go_, 0, none⟩), .pointer (some ⟨gi, 0, none⟩), .pointer (some ⟨gn, 0, none⟩)] W fun e w' => e = .returned (.tuple #[]) ∧ w' = ((W.setCell ⟨gi, 0, none⟩ (.bool true)).setCell ⟨gc, q, none⟩ (.int .i64 z)).drew := by
  have hcc : (c == c) = true := by simp
  go_enter Try.func99, Try.ntmps99
  go_wp2
  go_region
  all_goals
    go_wp2
    go_end0
    exact ⟨rfl, rfl⟩
theorem cl_swap_no (W : World) (gc q gi go_ gn : Nat) (c d : Int) (b : Bool) (hcd : (c == d) = false) (hc : W.cell? ⟨gc, q, none⟩ = some (.int .i64 c)) (ho : W.cell? ⟨go_, 0, none⟩ = some (.int .i64 d)) (hw : W.cell? ⟨gi, 0, none⟩ = some (.bool b)) (hwf : W.frozen? ⟨gi, 0, none⟩ = false) :
    Calls Try.prog 99 #[.pointer (some ⟨gc, q, none⟩), .pointer (some ⟨go_, 0, none⟩), .pointer (some ⟨gi, 0, none⟩), .pointer (some ⟨gn, 0, none⟩)] W fun e w' => e = .returned (.tuple #[]) ∧ w' = (W.setCell ⟨gi, 0, none⟩ (.bool false)).drew := by
  go_enter Try.func99, Try.ntmps99
  go_wp2
  go_region
  all_goals
    go_wp2
    go_end0
    exact ⟨rfl, rfl⟩
end Go.Proofs.Ytjfenjnnpikkdaa
/- Package machine: its methods' contracts. -/
namespace Go.Proofs.Ytjfenjnnpikkdaa
set_option linter.unusedVariables false
set_option maxRecDepth 100000
set_option linter.unusedSimpArgs false
open Go.RowKit

theorem Mach.cellAt {w : World} {bm gc n cc : Nat} {vs : Value} {M : MS} (h : Mach w bm (.slice (some ⟨gc, 0, none⟩) n cc) vs M) {q : Nat} (hq : q < M.cells.length) :
    w.cell? ⟨gc, q, none⟩ = some (.int .i64 (M.cells.getD q 0)) ∧ w.frozen? ⟨gc, q, none⟩ = false := by
  have hn : n = M.cells.length := by
    obtain ⟨a, c, e⟩ := h.ofLenC
    simp at e; omega
  subst hn
  exact ⟨by rw [World.ownsRow.cellAt h.cells q (by omega), ints_get _ _ hq], World.ownsRow.frozenAt h.cells q⟩

theorem Mach.newNot {w : World} {bm : Nat} {vc vs : Value} {M : MS} (h : Mach w bm vc vs M) {k : Nat} (hk : w.heap.size ≤ k) : ¬ machF bm vc vs k := fun hf => by
  have := h.lt hf
  omega

theorem call_write (args : Array Value) (W : World) : (callFunc 72 args).run Try.prog W = .ok (.enter 72 args) W := by
  go_simp
theorem call_swap (args : Array Value) (W : World) : (callFunc 99 args).run Try.prog W = .ok (.enter 99 args) W := by
  go_simp

/-- What a method leaves: the machine, all else as it was, and its own variable's cell. -/
def After (w : World) (bm : Nat) (vc vs : Value) (M : MS) (b : Nat) (v : Value) (w' : World) : Prop :=
  Mach w' bm vc vs M ∧ Keeps (machF bm vc vs) w w' ∧ w'.cell? ⟨b, 0, none⟩ = some v ∧ w'.frozen? ⟨b, 0, none⟩ = false

set_option maxHeartbeats 800000 in
theorem mach_read {w : World} {bm : Nat} {vc vs : Value} {M : MS} (h : Mach w bm vc vs M) (p c : Int) :
    Calls Try.prog 62 #[.pointer (some ⟨bm, 0, none⟩), .int .i64 p, .int .i64 c] w fun e w' =>
      e = .returned (.int .i64 (M.get c)) ∧ Mach w' bm vc vs (M.step p) ∧ Keeps (machF bm vc vs) w w' := by
  have hm := hmf
  have hnew : ¬ machF bm vc vs w.heap.size := h.newNot (Nat.le_refl _)
  by_cases hc : M.has c
  · obtain ⟨gc, cc, q, n0, rfl, hq, rfl, hcc, hcf, hcl, hcb, hget, hput⟩ := h.viewC hc
    rw [hget]
    have ACC := mach_access_in (h.alloc (.cells #[.int .i64 0] 3)) p gc _ cc q rfl hq 81 #[.pointer (some ⟨w.heap.size, 0, none⟩)] (After w bm _ vs (M.step p) w.heap.size (.int .i64 n0)) call_read (by
      intro W hW kW
      have hcW : W.cell? ⟨gc, q, none⟩ = some (.int .i64 n0) := by
        rw [(hW.cellAt (q := q) (by rw [MS.step_cells]; exact hq)).1, MS.step_cells, ← hget, MS.get, if_pos hc, Int.toNat_natCast]
      have hB := (Blk.new w #[.int .i64 0] 3).keeps kW hnew
      refine (cl_read W gc q w.heap.size n0 0 hcW (by rw [hB.cell]; rfl) (hB.frozen 0)).mono ?_
      rintro e w' ⟨rfl, rfl⟩
      have hB' := hB.set 0 (.int .i64 n0)
      exact ⟨rfl, hW.other hnew _, ((((Keeps.refl _ w).alloc _).trans' kW).set w.heap.size 0 (.inr (Nat.le_refl _)) _), by rw [hB'.cell]; rfl, hB'.frozen 0⟩)
    have HA := Lib.hid ACC
    clear ACC h hget hput hc
    go_enter Try.func62, Try.ntmps62
    go_wp2_with fail
    refine HA.out.mono ?_
    rintro e w' ⟨rfl, hM, hK, hc1, hf1⟩
    go_wp2
    have hc2 := World.cell?_setCell_same w' ⟨w.heap.size, 0, none⟩ (.int .i64 n0) hc1
    exact bodyPost_ret (v := .int .i64 n0) (by simp [results, Try.results62, go_sem, hc2]) rfl ⟨rfl, hM.other hnew _, hK.set w.heap.size 0 (.inr (Nat.le_refl _)) _⟩
  · have hget : M.get c = 0 := by unfold MS.get; rw [if_neg hc]
    rw [hget]
    have ACC := mach_access_out (h.alloc (.cells #[.int .i64 0] 3)) p c (.func (Fn.func 81) #[] #[.pointer (some ⟨w.heap.size, 0, none⟩)]) hc
    have HA := Lib.hid ACC
    clear ACC h hget hc
    go_enter Try.func62, Try.ntmps62
    go_wp2_with fail
    refine HA.out.mono ?_
    rintro e w' ⟨rfl, hM, hK⟩
    have hB := (Blk.new w #[.int .i64 0] 3).keeps hK hnew
    have hc1 : w'.cell? ⟨w.heap.size, 0, none⟩ = some (.int .i64 0) := by rw [hB.cell]; rfl
    have hf1 := hB.frozen 0
    go_wp2
    have hc2 := World.cell?_setCell_same w' ⟨w.heap.size, 0, none⟩ (.int .i64 0) hc1
    exact bodyPost_ret (v := .int .i64 0) (by simp [results, Try.results62, go_sem, hc2]) rfl ⟨rfl, hM.other hnew _, (((Keeps.refl _ w).alloc _).trans' hK).set w.heap.size 0 (.inr (Nat.le_refl _)) _⟩

set_option maxHeartbeats 800000 in
theorem mach_write {w : World} {bm : Nat} {vc vs : Value} {M : MS} (h : Mach w bm vc vs M) (p c n : Int) :
    Calls Try.prog 53 #[.pointer (some ⟨bm, 0, none⟩), .int .i64 p, .int .i64 c, .int .i64 n] w fun e w' =>
      e = .returned (.tuple #[]) ∧ Mach w' bm vc vs ((M.step p).put c n) ∧ Keeps (machF bm vc vs) w w' := by
  have hm := hmf
  have hnew : ¬ machF bm vc vs w.heap.size := h.newNot (Nat.le_refl _)
  by_cases hc : M.has c
  · obtain ⟨gc, cc, q, n0, rfl, hq, rfl, hcc, hcf, hcl, hcb, hget, hput⟩ := h.viewC hc
    have ACC := mach_access_in (h.alloc (.cells #[.int .i64 n] 3)) p gc _ cc q rfl hq 72 #[.pointer (some ⟨w.heap.size, 0, none⟩)] (fun w' => Mach w' bm (.slice (some ⟨gc, 0, none⟩) M.cells.length cc) vs ((M.step p).put q n) ∧ Keeps (machF bm (.slice (some ⟨gc, 0, none⟩) M.cells.length cc) vs) w w') call_write (by
      intro W hW kW
      have hcW := hW.cellAt (q := q) (by rw [MS.step_cells]; exact hq)
      have hB := (Blk.new w #[.int .i64 n] 3).keeps kW hnew
      refine (cl_write W gc q w.heap.size _ n hcW.1 hcW.2 (by rw [hB.cell]; rfl)).mono ?_
      rintro e w' ⟨rfl, rfl⟩
      have hp : (M.step p).put q n = { (M.step p) with cells := (M.step p).cells.set q n } := by
        unfold MS.put
        rw [if_pos (by rw [MS.step_has]; exact hc), Int.toNat_natCast]
      rw [hp]
      exact ⟨rfl, hW.storeC q n, (((Keeps.refl _ w).alloc _).trans' kW).set gc q (.inl (.inr (.inl rfl))) _⟩)
    have HA := Lib.hid ACC
    clear ACC h hget hput hc
    go_enter Try.func53, Try.ntmps53
    go_wp2_with fail
    refine HA.out.mono ?_
    rintro e w' ⟨rfl, hM, hK⟩
    go_wp2
    go_end0
    exact ⟨rfl, hM, hK⟩
  · have hp : (M.step p).put c n = M.step p := by unfold MS.put; rw [if_neg (by rw [MS.step_has]; exact hc)]
    rw [hp]
    have ACC := mach_access_out (h.alloc (.cells #[.int .i64 n] 3)) p c (.func (Fn.func 72) #[] #[.pointer (some ⟨w.heap.size, 0, none⟩)]) hc
    have HA := Lib.hid ACC
    clear ACC h hp hc
    go_enter Try.func53, Try.ntmps53
    go_wp2_with fail
    refine HA.out.mono ?_
    rintro e w' ⟨rfl, hM, hK⟩
    go_wp2
    go_end0
    exact ⟨rfl, hM, ((Keeps.refl _ w).alloc _).trans' hK⟩

/-- What a swap leaves. -/
def MS.swap (M : MS) (p c o n : Int) : MS := if M.has c ∧ M.get c = o then (M.step p).put c n else M.step p
def MS.swaps (M : MS) (c o : Int) : Bool := decide (M.has c ∧ M.get c = o)

set_option maxHeartbeats 1600000 in
theorem mach_swap {w : World} {bm : Nat} {vc vs : Value} {M : MS} (h : Mach w bm vc vs M) (p c o n : Int) :
    Calls Try.prog 94 #[.pointer (some ⟨bm, 0, none⟩), .int .i64 p, .int .i64 c, .int .i64 o, .int .i64 n] w fun e w' =>
      e = .returned (.bool (M.swaps c o)) ∧ Mach w' bm vc vs (M.swap p c o n) ∧ Keeps (machF bm vc vs) w w' := by
  have hm := hmf
  have hnew : ¬ machF bm vc vs w.heap.size := h.newNot (Nat.le_refl _)
  have hnew1 : ¬ machF bm vc vs (w.heap.size + 1) := h.newNot (by omega)
  have hnew2 : ¬ machF bm vc vs (w.heap.size + 1 + 1) := h.newNot (by omega)
  have hA0 := ((h.alloc (.cells #[.int .i64 o] 3)).alloc (.cells #[.int .i64 n] 3)).alloc (.cells #[.bool false] 4)
  have kA0 : Keeps (machF bm vc vs) w (((w.alloc (.cells #[.int .i64 o] 3)).alloc (.cells #[.int .i64 n] 3)).alloc (.cells #[.bool false] 4)) := (((Keeps.refl _ w).alloc _).alloc _).alloc _
  have bo := ((Blk.new w #[.int .i64 o] 3).alloc (.cells #[.int .i64 n] 3)).alloc (.cells #[.bool false] 4)
  have bn := (Blk.new (w.alloc (.cells #[.int .i64 o] 3)) #[.int .i64 n] 3).alloc (.cells #[.bool false] 4)
  have bw := Blk.new ((w.alloc (.cells #[.int .i64 o] 3)).alloc (.cells #[.int .i64 n] 3)) #[.bool false] 4
  simp only [World.size_alloc] at bw bn
  by_cases hc : M.has c
  · obtain ⟨gc, cc, q, n0, rfl, hq, rfl, hcc, hcf, hcl, hcb, hget, hput⟩ := h.viewC hc
    have ACC := mach_access_in hA0 p gc _ cc q rfl hq 99 #[.pointer (some ⟨w.heap.size, 0, none⟩), .pointer (some ⟨w.heap.size + 1 + 1, 0, none⟩), .pointer (some ⟨w.heap.size + 1, 0, none⟩)] (After w bm _ vs (M.swap p q o n) (w.heap.size + 1 + 1) (.bool (M.swaps q o))) call_swap (by
      intro W hW kW
      have hcW := hW.cellAt (q := q) (by rw [MS.step_cells]; exact hq)
      have hn0 : (M.step p).cells.getD q 0 = n0 := by rw [MS.step_cells, ← hget, MS.get, if_pos hc, Int.toNat_natCast]
      rw [hn0] at hcW
      have hB := bo.keeps kW hnew
      have hB1 := bn.keeps kW hnew1
      have hB2 := bw.keeps kW hnew2
      by_cases he : n0 = o
      · subst he
        refine (cl_swap_yes W gc q (w.heap.size + 1 + 1) w.heap.size (w.heap.size + 1) n0 n false hcW.1 hcW.2 (by rw [hB.cell]; rfl) (by rw [hB1.cell]; rfl) (by rw [hB2.cell]; rfl) (hB2.frozen 0) (by omega) (by omega)).mono ?_
        rintro e w' ⟨rfl, rfl⟩
        have hp : M.swap p q n0 n = { (M.step p) with cells := (M.step p).cells.set q n } := by
          unfold MS.swap MS.put
          rw [if_pos ⟨hc, hget⟩, if_pos (by rw [MS.step_has]; exact hc), Int.toNat_natCast]
        have hs : M.swaps q n0 = true := by simp [MS.swaps, hc, hget]
        rw [hp, hs]
        have hB' := ((hB2.set 0 (.bool true)).other (a := ⟨gc, q, none⟩) (by show w.heap.size + 1 + 1 ≠ gc; omega) (.int .i64 n)).drew
        exact ⟨rfl, ((hW.other hnew2 _).storeC q _).drew, (((kA0.trans' kW).set (w.heap.size + 1 + 1) 0 (.inr (by omega)) _).set gc q (.inl (.inr (.inl rfl))) _).drew, by rw [hB'.cell]; rfl, hB'.frozen 0⟩
      · refine (cl_swap_no W gc q (w.heap.size + 1 + 1) w.heap.size (w.heap.size + 1) n0 o false (by simpa using he) hcW.1 (by rw [hB.cell]; rfl) (by rw [hB2.cell]; rfl) (hB2.frozen 0)).mono ?_
        rintro e w' ⟨rfl, rfl⟩
        have hp : M.swap p q o n = M.step p := by
          unfold MS.swap
          rw [if_neg (by rw [hget]; exact fun hh => he hh.2)]
        have hs : M.swaps q o = false := by simp [MS.swaps, hget, he]
        rw [hp, hs]
        have hB' := (hB2.set 0 (.bool false)).drew
        exact ⟨rfl, (hW.other hnew2 _).drew, ((kA0.trans' kW).set (w.heap.size + 1 + 1) 0 (.inr (by omega)) _).drew, by rw [hB'.cell]; rfl, hB'.frozen 0⟩)
    have HA := Lib.hid ACC
    clear ACC h hget hput hc hA0 kA0 bo bn bw
    go_enter Try.func94, Try.ntmps94
    go_wp2_with fail
    refine HA.out.mono ?_
    rintro e w' ⟨rfl, hM, hK, hc1, hf1⟩
    go_wp2
    have hc2 := World.cell?_setCell_same w' ⟨w.heap.size + 1 + 1, 0, none⟩ (.bool (M.swaps q o)) hc1
    exact bodyPost_ret (v := .bool (M.swaps q o)) (by simp [results, Try.results94, go_sem, hc2]) rfl ⟨rfl, hM.other hnew2 _, hK.set (w.heap.size + 1 + 1) 0 (.inr (by omega)) _⟩
  · have hs : M.swaps c o = false := by simp [MS.swaps, hc]
    have hp : M.swap p c o n = M.step p := by unfold MS.swap; rw [if_neg (fun hh => hc hh.1)]
    rw [hs, hp]
    have ACC := mach_access_out hA0 p c (.func (Fn.func 99) #[] #[.pointer (some ⟨w.heap.size, 0, none⟩), .pointer (some ⟨w.heap.size + 1 + 1, 0, none⟩), .pointer (some ⟨w.heap.size + 1, 0, none⟩)]) hc
    have HA := Lib.hid ACC
    have HB := Lib.hid bw
    have HK := Lib.hid kA0
    clear ACC h hc hs hp hA0 kA0 bo bn bw
    go_enter Try.func94, Try.ntmps94
    go_wp2_with fail
    refine HA.out.mono ?_
    rintro e w' ⟨rfl, hM, hK⟩
    have hB := HB.out.keeps hK hnew2
    have hc1 : w'.cell? ⟨w.heap.size + 1 + 1, 0, none⟩ = some (.bool false) := by rw [hB.cell]; rfl
    have hf1 := hB.frozen 0
    go_wp2
    have hc2 := World.cell?_setCell_same w' ⟨w.heap.size + 1 + 1, 0, none⟩ (.bool false) hc1
    exact bodyPost_ret (v := .bool false) (by simp [results, Try.results94, go_sem, hc2]) rfl ⟨rfl, hM.other hnew2 _, (HK.out.trans' hK).set (w.heap.size + 1 + 1) 0 (.inr (by omega)) _⟩

end Go.Proofs.Ytjfenjnnpikkdaa
/- Package machine: New, Cells, Steps, Len. -/
namespace Go.Proofs.Ytjfenjnnpikkdaa
set_option linter.unusedVariables false
set_option maxRecDepth 100000
set_option linter.unusedSimpArgs false
open Go.RowKit

theorem infoIntM : (Try.prog.info? 3).map (fun i => (i.zero, i.size, i.bytes)) = some (some (.int .i64 0), 1, 8) := by kernel_rfl

set_option maxHeartbeats 800000 in
theorem mach_steps {w : World} {bm : Nat} {vc vs : Value} {M : MS} (h : Mach w bm vc vs M) (p : Int) :
    Calls Try.prog 50 #[.pointer (some ⟨bm, 0, none⟩), .int .i64 p] w fun e w' =>
      e = .returned (.int .i64 (M.stepsOf p)) ∧ w' = w := by
  have h1 : w.cell? ⟨bm, 1, none⟩ = some vs := by rw [h.blk.cell]; rfl
  have hls := h.lenS
  by_cases hp : 0 ≤ p ∧ p < M.steps.length
  · have hso : M.stepsOf p = M.steps.getD p.toNat 0 := by unfold MS.stepsOf; rw [if_pos hp]
    obtain ⟨gs, cs, q, s, rfl, hq, rfl, hs, hsf, hsl, hsb, hst⟩ := h.viewS hp
    have hsv : M.stepsOf q = s := by
      have := World.ownsRow.cellAt h.steps q (by omega)
      rw [ints_get _ _ hq, hs] at this
      rw [hso]
      simp at this
      simp [this]
    rw [hsv]
    clear h hst hso hsv
    go_enter Try.func50, Try.ntmps50
    go_wp2
    go_ret
    exact ⟨rfl, rfl⟩
  · have hso : M.stepsOf p = 0 := by unfold MS.stepsOf; rw [if_neg hp]
    rw [hso]
    obtain ⟨as0, cs, rfl⟩ := h.ofLenS
    clear h hso
    have hp' : p < 0 ∨ (¬ p < 0 ∧ ¬ p < M.steps.length) := by omega
    clear hp
    rcases hp' with hp | ⟨hp, hp2⟩
    all_goals
      go_enter Try.func50, Try.ntmps50
      go_wp2
      go_ret
      exact ⟨rfl, rfl⟩

theorem ints_replicate (n : Nat) (z : Int) : ints (List.replicate n z) = List.replicate n (.int .i64 z) := by simp [ints]

theorem mach_made (w : World) (n : Nat) (hn : n ≤ 17592186044416) : Mach ((w.alloc (.cells (madeCells #[.int .i64 0] n) 3)).alloc (.cells #[.slice none 0 0, .slice (some ⟨w.heap.size, 0, none⟩) n n] 108)) (w.heap.size + 1) (.slice none 0 0) (.slice (some ⟨w.heap.size, 0, none⟩) n n) ⟨[], List.replicate n 0⟩ := by
  have hm : n ≤ maxLen := by simp only [maxLen]; omega
  refine ⟨?_, ⟨by simp [ints], .inl ⟨rfl, rfl⟩⟩, ?_, by intro k hk; simp [Value.ownBlock] at hk, by simp, by simpa using hn⟩
  · have := Blk.new (w.alloc (.cells (madeCells #[.int .i64 0] n) 3)) #[.slice none 0 0, .slice (some ⟨w.heap.size, 0, none⟩) n n] 108
    simpa using this
  · rw [ints_replicate, List.length_replicate]
    exact own_keeps (F := fun _ => False) (own_made w _ _ n hm) ((Keeps.refl _ _).alloc _) (by simp)

/-- What New leaves. -/
def NewPost (w : World) (n : Int) (e : Ending) (w' : World) : Prop :=
  ∃ bm vs, e = .returned (.pointer (some ⟨bm, 0, none⟩)) ∧ Mach w' bm (.slice none 0 0) vs ⟨[], List.replicate n.toNat 0⟩ ∧ Keeps (fun _ => False) w w' ∧ (∀ k, machF bm (.slice none 0 0) vs k → w.heap.size ≤ k)
/-- What Cells leaves. -/
def CellsPost (w : World) (bm : Nat) (vc vs : Value) (M : MS) (n : Nat) (e : Ending) (w' : World) : Prop :=
  e = .returned (.int .i64 M.cells.length) ∧ ∃ vc', Mach w' bm vc' vs ⟨M.cells ++ List.replicate n 0, M.steps⟩ ∧ Keeps (machF bm vc vs) w w' ∧ (∀ k, machF bm vc' vs k → machF bm vc vs k ∨ w.heap.size ≤ k)

theorem new_fin (w : World) (q : Nat) (hq : q ≤ 1099511627776) (n : Int) (hn : n.toNat = q) : NewPost w n (Ending.returned (.pointer (some ⟨w.heap.size + 1, 0, none⟩))) ((w.alloc (.cells (madeCells #[.int .i64 0] q) 3)).alloc (.cells #[.slice none 0 0, .slice (some ⟨w.heap.size, 0, none⟩) q q] 108)) := by
  subst hn
  refine ⟨_, _, rfl, mach_made w _ (by omega), ((Keeps.refl _ w).alloc _).alloc _, ?_⟩
  rintro k (rfl | hk | hk)
  · omega
  · simp [Value.ownBlock] at hk
  · simp [Value.ownBlock] at hk
    omega

set_option maxHeartbeats 800000 in
theorem mach_new (w : World) (n : Int) (hn : n ≤ 1099511627776) :
    Calls Try.prog 38 #[.int .i64 n] w (NewPost w n) := by
  by_cases h0 : n < 0
  · have hmk := run_make_row' (P := Try.prog) 22 3 (.int .i64 0) 8 Try.underlying22 infoIntM rfl .i64 .i64 0 (by omega) (by omega)
    have HF := Lib.hid (new_fin w 0 (by omega) n (by omega))
    simp only [Int.natCast_zero] at hmk
    go_enter Try.func38, Try.ntmps38
    go_wp2
    go_ret
    exact HF.out
  · obtain ⟨q, rfl⟩ := Int.eq_ofNat_of_zero_le (show 0 ≤ n by omega)
    have hmk := run_make_row' (P := Try.prog) 22 3 (.int .i64 0) 8 Try.underlying22 infoIntM rfl .i64 .i64 q (by omega) (by omega)
    have HF := Lib.hid (new_fin w q (by omega) q (by omega))
    go_enter Try.func38, Try.ntmps38
    go_wp2
    go_ret
    exact HF.out

theorem cells_fin (w w1 : World) (bm : Nat) (vc vs : Value) (M : MS) (h : Mach w bm vc vs M) (q : Nat) (hn : M.cells.length ≤ 1099511627776) (hq : q ≤ 1048576) (v' : Value)
    (hown : Own w1 3 1 v' (M.cells.length + q) (ints M.cells ++ List.replicate q (.int .i64 0))) (hg : w.grownBy w1 vc.ownBlock) (hat : v'.ownBlock = vc.ownBlock ∨ v'.ownBlock = some w.heap.size) :
    CellsPost w bm vc vs M q (.returned (.int .i64 M.cells.length)) (w1.setCell ⟨bm, 0, none⟩ v') := by
  have kg : Keeps (machF bm vc vs) w w1 := (Keeps.refl _ w).grown hg (fun k hk => .inl (.inr (.inl hk)))
  have hb1 : Blk w1 bm #[vc, vs] 108 := (hg.block bm h.blk.lt (fun e => h.neC e.symm)).trans h.blk
  have hne : v'.ownBlock ≠ some bm := own_blk_ne hown hb1 (by decide)
  refine ⟨rfl, v', ⟨?_, ?_, ?_, ?_, ?_, h.lenS⟩, kg.set bm 0 (.inl (.inl rfl)) _, ?_⟩
  · simpa using hb1.set 0 v'
  · have := own_keeps hown (Keeps.one w1 ⟨bm, 0, none⟩ v') (fun b hb e => hne (by rw [hb]; exact congrArg some e))
    simpa [ints] using this
  · have h1 : Own w1 3 1 vs M.steps.length (ints M.steps) := own_keeps (F := fun k => vc.ownBlock = some k) h.steps ((Keeps.refl _ w).grown hg (fun k hk => .inl hk)) (fun b hb e => h.apart b e hb)
    exact own_keeps h1 (Keeps.one w1 ⟨bm, 0, none⟩ v') (fun b hb e => h.neS (by rw [hb]; exact congrArg some e))
  · intro k hk
    rcases hat with e | e
    · exact h.apart k (e ▸ hk)
    · intro hs
      have := own_lt h.steps hs
      rw [e] at hk
      simp at hk
      omega
  · simp only [List.length_append, List.length_replicate]
    omega
  · rintro k (rfl | hk | hk)
    · exact .inl (.inl rfl)
    · rcases hat with e | e
      · exact .inl (.inr (.inl (e ▸ hk)))
      · rw [e] at hk
        simp at hk
        omega
    · exact .inl (.inr (.inr hk))

set_option maxHeartbeats 800000 in
theorem mach_cells {w : World} {bm : Nat} {vc vs : Value} {M : MS} (h : Mach w bm vc vs M) (n : Int) (hn : M.cells.length ≤ 1099511627776) :
    Calls Try.prog 39 #[.pointer (some ⟨bm, 0, none⟩), .int .i64 n] w (CellsPost w bm vc vs M (if n ≤ 1048576 then n.toNat else 0)) := by
  have h0 : w.cell? ⟨bm, 0, none⟩ = some vc := by rw [h.blk.cell]; rfl
  have f0 := h.blk.frozen 0
  obtain ⟨ac, cc, hvc⟩ := h.ofLenC
  subst hvc
  by_cases hc : 1 ≤ n ∧ n ≤ 1048576
  · obtain ⟨q, rfl⟩ := Int.eq_ofNat_of_zero_le (show 0 ≤ n by omega)
    rw [if_pos hc.2, Int.toNat_natCast]
    obtain ⟨c1, c2⟩ := hc
    have hq0 : 1 ≤ q := by omega
    have H := Lib.hid h
    have hB := Lib.hid h.cells
    have hne : some bm ≠ (Value.slice ac M.cells.length cc).ownBlock := fun e => h.neC e.symm
    have HN := Lib.hid hne
    clear h hne
    go_enter Try.func39, Try.ntmps39
    go_wp2_with (at_builtin; refine wpList_append_zeros_own w rfl _ _ 22 3 3 rfl .i64 .i64 (.int .i64 0) 8 Try.underlying22 Try.underlying3 infoIntM rfl rfl (by omega) (.slice ac M.cells.length cc) _ _ rfl hB.out q rfl (by omega) (by omega) ?_; intro v' w1 hown hgrow hat; obtain ⟨a1, c1, rfl⟩ := own_shape hown; have hc1 := hgrow.cell h0 HN.out; have hf1 := (World.frozen?_of_block (a := ⟨bm, 0, none⟩) (hgrow.block bm (World.block_lt_of_cell? _ _ h0) HN.out)).trans f0)
    go_ret
    exact cells_fin w w1 bm _ vs M H.out q hn (by omega) _ hown hgrow hat
  · have e0 : (if n ≤ 1048576 then n.toNat else 0) = 0 := by split <;> omega
    rw [e0]
    have fin : CellsPost w bm (.slice ac M.cells.length cc) vs M 0 (.returned (.int .i64 M.cells.length)) w := by
      refine ⟨rfl, _, ?_, Keeps.refl _ _, fun k hk => .inl hk⟩
      simpa using h
    have HF := Lib.hid fin
    have hn' : ¬ 1 ≤ n ∨ (1 ≤ n ∧ ¬ n ≤ 1048576) := by omega
    clear h fin hc e0
    rcases hn' with hn1 | ⟨hn1, hn2⟩
    all_goals
      go_enter Try.func39, Try.ntmps39
      go_wp2
      go_ret
      exact HF.out
end Go.Proofs.Ytjfenjnnpikkdaa
/- Shared objects in plain Lean: logs, and what any engine owes its callers. -/
namespace Go.Proofs.Ytjfenjnnpikkdaa
set_option linter.unusedVariables false
set_option maxRecDepth 100000
set_option linter.unusedSimpArgs false

/-- A record of a log. -/
structure Rec where
  index : Nat
  proc : Nat
  seq : Nat
  op : Op3
  resp : Int
  deriving DecidableEq

def upd {α : Type} (f : Nat → α) (p : Nat) (v : α) : Nat → α := fun q => if q = p then v else f q
theorem upd_same {α : Type} (f : Nat → α) (p : Nat) (v : α) : upd f p v p = v := by simp [upd]
theorem upd_ne {α : Type} (f : Nat → α) {p q : Nat} (v : α) (h : q ≠ p) : upd f p v q = f q := by simp [upd, h]

/-- The state behind the records of a log. -/
def behind (s : St) : List Rec → St
  | [] => s
  | r :: l => behind (stepS s r.op).1 l
theorem behind_append (s : St) : ∀ (l m : List Rec), behind s (l ++ m) = behind (behind s l) m := by
  intro l
  induction l generalizing s with
  | nil => intro m; rfl
  | cons r l ih => intro m; exact ih _ m
theorem behind_snoc (s : St) (l : List Rec) (r : Rec) : behind s (l ++ [r]) = (stepS (behind s l) r.op).1 := by
  rw [behind_append]; rfl
/-- How many records a process has. -/
def countL (l : List Rec) (p : Nat) : Nat := (l.filter fun r => r.proc == p).length
theorem countL_snoc (l : List Rec) (r : Rec) (p : Nat) : countL (l ++ [r]) p = countL l p + if r.proc = p then 1 else 0 := by
  unfold countL
  by_cases h : r.proc = p <;> simp [h]
theorem countL_append (l m : List Rec) (p : Nat) : countL (l ++ m) p = countL l p + countL m p := by
  unfold countL; simp
theorem countL_take (l : List Rec) (p : Nat) {j k : Nat} (h : j ≤ k) : countL (l.take j) p ≤ countL (l.take k) p := by
  have e : l.take j = (l.take k).take j := by rw [List.take_take, Nat.min_eq_left h]
  rw [e]
  unfold countL
  exact ((List.take_sublist j (l.take k)).filter _).length_le

/-- A log as it may be: its indices, each process's numbers, the answers. -/
inductive LogOK (n : Nat) (s : St) : List Rec → Prop
  | nil : LogOK n s []
  | snoc {l : List Rec} {r : Rec} : LogOK n s l → r.index = l.length → r.proc < n → r.seq = countL l r.proc + 1 → r.resp = (stepS (behind s l) r.op).2 → LogOK n s (l ++ [r])

theorem LogOK.at {n : Nat} {s : St} {l : List Rec} (h : LogOK n s l) : ∀ k r, l[k]? = some r → r.index = k ∧ r.proc < n ∧ r.seq = countL (l.take k) r.proc + 1 ∧ r.resp = (stepS (behind s (l.take k)) r.op).2 := by
  induction h with
  | nil => intro k r hk; simp at hk
  | @snoc l r h h1 h2 h3 h4 ih =>
    intro k q hk
    by_cases hlt : k < l.length
    · rw [List.getElem?_append_left hlt] at hk
      rw [List.take_append_of_le_length (by omega)]
      exact ih k q hk
    · have he : k = l.length := by
        have := (List.getElem?_eq_some_iff.1 hk).1
        simp at this; omega
      subst he
      have hq : r = q := by simpa using hk
      subst hq
      rw [List.take_left]
      exact ⟨h1, h2, h3, h4⟩
theorem LogOK.seq_le {n : Nat} {s : St} {l : List Rec} (h : LogOK n s l) {k : Nat} {r : Rec} (hk : l[k]? = some r) : 1 ≤ r.seq ∧ r.seq ≤ countL l r.proc := by
  have h1 := (h.at k r hk).2.2.1
  have hlt := (List.getElem?_eq_some_iff.1 hk).1
  have h2 : countL (l.take (k + 1)) r.proc = countL (l.take k) r.proc + 1 := by
    have e : l.take (k + 1) = l.take k ++ [r] := by
      rw [List.take_succ_eq_append_getElem hlt]
      congr 2
      exact (List.getElem?_eq_some_iff.1 hk).2
    rw [e, countL_snoc, if_pos rfl]
  have h3 := countL_take l r.proc (show k + 1 ≤ l.length by omega)
  rw [List.take_length] at h3
  omega
/-- Two records of one process with one number are one. -/
theorem LogOK.inj {n : Nat} {s : St} {l : List Rec} (h : LogOK n s l) {j k : Nat} {q r : Rec} (hj : l[j]? = some q) (hk : l[k]? = some r) (hp : q.proc = r.proc) (hs : q.seq = r.seq) : j = k := by
  have key : ∀ {j k : Nat} {q r : Rec}, l[j]? = some q → l[k]? = some r → q.proc = r.proc → j < k → q.seq < r.seq := by
    intro j k q r hj hk hp hlt
    have h1 := (h.at j q hj).2.2.1
    have h2 := (h.at k r hk).2.2.1
    have hjl := (List.getElem?_eq_some_iff.1 hj).1
    have e : l.take (j + 1) = l.take j ++ [q] := by
      rw [List.take_succ_eq_append_getElem hjl]
      congr 2
      exact (List.getElem?_eq_some_iff.1 hj).2
    have h3 : countL (l.take (j + 1)) q.proc = countL (l.take j) q.proc + 1 := by rw [e, countL_snoc, if_pos rfl]
    have h4 := countL_take l q.proc (show j + 1 ≤ k by omega)
    rw [← hp] at h2
    omega
  rcases Nat.lt_trichotomy j k with h1 | h1 | h1
  · have := key hj hk hp h1; omega
  · exact h1
  · have := key hk hj hp.symm h1; omega
theorem LogOK.has {n : Nat} {s : St} {l : List Rec} (h : LogOK n s l) (p : Nat) : ∀ m, 1 ≤ m → m ≤ countL l p → ∃ (k : Nat) (r : Rec), l[k]? = some r ∧ r.proc = p ∧ r.seq = m := by
  induction h with
  | nil => intro m h1 h2; simp [countL] at h2; omega
  | @snoc l r h h1 h2 h3 h4 ih =>
    intro m hm1 hm2
    rw [countL_snoc] at hm2
    by_cases hle : m ≤ countL l p
    · obtain ⟨k, q, hk, e1, e2⟩ := ih m hm1 hle
      exact ⟨k, q, by rw [List.getElem?_append_left ((List.getElem?_eq_some_iff.1 hk).1)]; exact hk, e1, e2⟩
    · by_cases hp : r.proc = p
      · rw [if_pos hp] at hm2
        refine ⟨l.length, r, by simp, hp, ?_⟩
        rw [h3, hp]; omega
      · rw [if_neg hp] at hm2; omega

/-- An object that processes share, as its callers see it. -/
structure Lin (σ : Type) where
  n : Nat
  start : St
  Inv : σ → Prop
  busy : σ → Nat → Bool
  many : σ → Nat → Nat
  cur : σ → Nat → Op3
  log : σ → List Rec
  invoke : σ → Nat → Op3 → σ
  step : σ → Nat → σ × Int × Bool
  inv_invoke : ∀ s p o, Inv s → p < n → busy s p = false → fitsB o = true → Inv (invoke s p o)
  busy_invoke : ∀ s p o, Inv s → p < n → busy s p = false → ∀ q, busy (invoke s p o) q = (busy s q || decide (q = p))
  many_invoke : ∀ s p o, Inv s → p < n → busy s p = false → ∀ q, many (invoke s p o) q = many s q + if q = p then 1 else 0
  cur_invoke : ∀ s p o, Inv s → p < n → busy s p = false → ∀ q, q < n → busy (invoke s p o) q = true → cur (invoke s p o) q = if q = p then o else cur s q
  log_invoke : ∀ s p o, Inv s → p < n → busy s p = false → log (invoke s p o) = log s
  inv_step : ∀ s p, Inv s → p < n → busy s p = true → Inv (step s p).1
  busy_step : ∀ s p, Inv s → p < n → busy s p = true → ∀ q, busy (step s p).1 q = (busy s q && !(decide (q = p) && (step s p).2.2))
  many_step : ∀ s p, Inv s → p < n → busy s p = true → ∀ q, many (step s p).1 q = many s q
  cur_step : ∀ s p, Inv s → p < n → busy s p = true → ∀ q, busy (step s p).1 q = true → cur (step s p).1 q = cur s q
  log_step : ∀ s p, Inv s → p < n → busy s p = true → ∃ m, log (step s p).1 = log s ++ m
  done_step : ∀ s p, Inv s → p < n → busy s p = true → (step s p).2.2 = true → ∃ r ∈ log (step s p).1, r.proc = p ∧ r.seq = many s p ∧ r.op = cur s p ∧ r.resp = (step s p).2.1
  log_ok : ∀ s, Inv s → LogOK n start (log s)
  log_many : ∀ s, Inv s → ∀ p, p < n → countL (log s) p ≤ many s p ∧ many s p ≤ countL (log s) p + 1
  log_idle : ∀ s, Inv s → ∀ p, p < n → busy s p = false → countL (log s) p = many s p
  log_cur : ∀ s, Inv s → ∀ r ∈ log s, busy s r.proc = true → r.seq = many s r.proc → r.op = cur s r.proc
end Go.Proofs.Ytjfenjnnpikkdaa
/- Layer 16 in plain Lean: copies that one swaps for all; what holds behind any steps. -/
namespace Go.Proofs.Ytjfenjnnpikkdaa
set_option linter.unusedVariables false
set_option maxRecDepth 100000
set_option linter.unusedSimpArgs false

structure Asked where
  proc : Nat
  many : Nat
  op : Op3
  deriving DecidableEq
structure Ver where
  st : St
  last : Nat → Nat
  resp : Nat → Int
  log : List Rec
inductive Ph | idle | announce | load | scan | swap | finish
  deriving DecidableEq
structure Pr where
  own : Nat
  many : Nat
  ph : Ph
  tries : Nat
  q : Nat
  seen : Nat
  todo : List Nat
structure PS where
  annv : Nat → Nat
  rootv : Nat
  procs : Nat → Pr
  asked : List Asked
  vers : List Ver

def noAsked : Asked := ⟨0, 0, ⟨0, 0, 0⟩⟩
def noVer : Ver := ⟨⟨0, [], false, 0⟩, fun _ => 0, fun _ => 0, []⟩
def PS.ask (E : PS) (a : Nat) : Asked := E.asked.getD a noAsked
def PS.ver (E : PS) (i : Nat) : Ver := E.vers.getD i noVer
def PS.now (E : PS) : Ver := E.ver E.rootv

def Ver.one (A : Nat → Asked) (v : Ver) (a : Nat) : Ver :=
  { st := (stepS v.st (A a).op).1, last := upd v.last (A a).proc a, resp := upd v.resp (A a).proc (stepS v.st (A a).op).2,
    log := v.log ++ [⟨v.log.length, (A a).proc, (A a).many, (A a).op, (stepS v.st (A a).op).2⟩] }
def Ver.all (A : Nat → Asked) (v : Ver) (l : List Nat) : Ver := l.foldl (Ver.one A) v

def PS.new (start : St) : PS := ⟨fun _ => 0, 0, fun _ => ⟨0, 0, .idle, 0, 0, 0, []⟩, [noAsked], [⟨start, fun _ => 0, fun _ => 0, []⟩]⟩
def PS.invoke (E : PS) (p : Nat) (o : Op3) : PS :=
  { E with procs := upd E.procs p { E.procs p with many := (E.procs p).many + 1, own := E.asked.length, ph := .announce }, asked := E.asked ++ [⟨p, (E.procs p).many + 1, o⟩] }
def PS.announce (E : PS) (p : Nat) : PS :=
  { E with annv := upd E.annv p (E.procs p).own, procs := upd E.procs p { E.procs p with tries := 0, ph := .load } }
def PS.load (E : PS) (p : Nat) : PS :=
  { E with procs := upd E.procs p { E.procs p with seen := E.rootv, q := 0, todo := [], ph := .scan } }
def PS.scan (n : Nat) (E : PS) (p : Nat) : PS :=
  let x := E.procs p
  let a := E.annv x.q
  { E with procs := upd E.procs p { x with todo := if a = (E.ver x.seen).last x.q then x.todo else x.todo ++ [a], q := x.q + 1, ph := if x.q + 1 < n then .scan else .swap } }
def PS.swap (E : PS) (p : Nat) : PS :=
  let x := E.procs p
  { E with vers := E.vers ++ [(E.ver x.seen).all E.ask x.todo], rootv := if E.rootv = x.seen then E.vers.length else E.rootv,
           procs := upd E.procs p { x with tries := x.tries + 1, ph := if x.tries + 1 < 2 then .load else .finish } }
def PS.finish (E : PS) (p : Nat) : PS := { E with procs := upd E.procs p { E.procs p with ph := .idle } }
/-- A step of a process that is busy. -/
def PS.step (n : Nat) (E : PS) (p : Nat) : PS × Int × Bool :=
  match (E.procs p).ph with
  | .idle => (E, 0, false)
  | .announce => (E.announce p, 0, false)
  | .load => (E.load p, 0, false)
  | .scan => (E.scan n p, 0, false)
  | .swap => (E.swap p, 0, false)
  | .finish => (E.finish p, E.now.resp p, true)

theorem PS.ask_append {E : PS} {a : Nat} (r : Asked) (h : a < E.asked.length) : (E.asked ++ [r]).getD a noAsked = E.ask a := by
  simp [PS.ask, List.getD_eq_getElem?_getD, List.getElem?_append_left h]
theorem PS.ver_append {E : PS} {i : Nat} (r : Ver) (h : i < E.vers.length) : (E.vers ++ [r]).getD i noVer = E.ver i := by
  simp [PS.ver, List.getD_eq_getElem?_getD, List.getElem?_append_left h]

/-- A copy as it may be: A tells what was asked for, m how much. -/
structure VerOK (n : Nat) (start : St) (A : Nat → Asked) (m : Nat) (v : Ver) : Prop where
  log : LogOK n start v.log
  st : v.st = behind start v.log
  lt : ∀ p, v.last p < m
  count : ∀ p, p < n → countL v.log p = (A (v.last p)).many
  proc : ∀ p, p < n → v.last p ≠ 0 → (A (v.last p)).proc = p
  last : ∀ p, p < n → v.last p ≠ 0 → ∃ r ∈ v.log, r.proc = p ∧ r.seq = (A (v.last p)).many ∧ r.op = (A (v.last p)).op ∧ r.resp = v.resp p
  recs : ∀ r ∈ v.log, ∃ a, a ≠ 0 ∧ a < m ∧ A a = ⟨r.proc, r.seq, r.op⟩

theorem VerOK.mono {n : Nat} {start : St} {A B : Nat → Asked} {m m' : Nat} {v : Ver} (h : VerOK n start A m v) (hm : m ≤ m') (hA : ∀ a, a < m → B a = A a) : VerOK n start B m' v := by
  have e : ∀ p, B (v.last p) = A (v.last p) := fun p => hA _ (h.lt p)
  refine ⟨h.log, h.st, fun p => Nat.lt_of_lt_of_le (h.lt p) hm, fun p hp => by rw [e]; exact h.count p hp, fun p hp h0 => by rw [e]; exact h.proc p hp h0, fun p hp h0 => by rw [e]; exact h.last p hp h0, ?_⟩
  intro r hr
  obtain ⟨a, h1, h2, h3⟩ := h.recs r hr
  exact ⟨a, h1, Nat.lt_of_lt_of_le h2 hm, by rw [hA a h2, h3]⟩

/-- One operation more, that is the next one of its process. -/
theorem VerOK.one {n : Nat} {start : St} {A : Nat → Asked} {m : Nat} {v : Ver} (h : VerOK n start A m v) {a : Nat} (ha : a ≠ 0) (hm : a < m) (hp : (A a).proc < n) (hn : (A a).many = (A (v.last (A a).proc)).many + 1) : VerOK n start A m (v.one A a) := by
  have hlog : LogOK n start (v.one A a).log := by
    unfold Ver.one
    refine .snoc h.log rfl hp ?_ ?_
    · simp only; rw [h.count _ hp, hn]
    · simp only; rw [h.st]
  refine ⟨hlog, ?_, ?_, ?_, ?_, ?_, ?_⟩
  · unfold Ver.one; simp only; rw [behind_snoc, h.st]
  · intro p; unfold Ver.one upd; simp only; split
    · exact hm
    · exact h.lt p
  · intro p hpn
    unfold Ver.one; simp only
    rw [countL_snoc]
    by_cases e : p = (A a).proc
    · subst e
      rw [upd_same, if_pos rfl, h.count _ hpn, hn]
    · rw [upd_ne _ _ e, if_neg (fun e' => e e'.symm), h.count p hpn]; rfl
  · intro p hpn h0
    unfold Ver.one at h0 ⊢; simp only at h0 ⊢
    by_cases e : p = (A a).proc
    · subst e; rw [upd_same]
    · rw [upd_ne _ _ e] at h0 ⊢; exact h.proc p hpn h0
  · intro p hpn h0
    unfold Ver.one at h0 ⊢; simp only at h0 ⊢
    by_cases e : p = (A a).proc
    · subst e
      rw [upd_same, upd_same]
      exact ⟨⟨v.log.length, (A a).proc, (A a).many, (A a).op, (stepS v.st (A a).op).2⟩, List.mem_append_right _ (by simp), rfl, rfl, rfl, rfl⟩
    · rw [upd_ne _ _ e] at h0 ⊢
      rw [upd_ne _ _ e]
      obtain ⟨r, hr, h1⟩ := h.last p hpn h0
      exact ⟨r, by simp [hr], h1⟩
  · intro r hr
    unfold Ver.one at hr
    simp only [List.mem_append, List.mem_singleton] at hr
    rcases hr with hr | rfl
    · exact h.recs r hr
    · exact ⟨a, ha, hm, rfl⟩

/-- What is done of a list: of processes that rise, each the next of its own. -/
structure TodoOK (n : Nat) (A : Nat → Asked) (m q : Nat) (l : List Nat) : Prop where
  ne : ∀ a ∈ l, a ≠ 0 ∧ a < m ∧ (A a).proc < q
  up : l.Pairwise fun a b => (A a).proc < (A b).proc
theorem all_last {A : Nat → Asked} {l : List Nat} : ∀ {v : Ver} {p : Nat}, (∀ a ∈ l, (A a).proc ≠ p) → (v.all A l).last p = v.last p := by
  induction l with
  | nil => intro v p _; rfl
  | cons b l ih =>
    intro v p h
    have := ih (v := v.one A b) (p := p) (fun a ha => h a (List.mem_cons_of_mem _ ha))
    unfold Ver.all at this ⊢
    rw [List.foldl_cons, this]
    unfold Ver.one; simp only
    exact upd_ne _ _ (fun e => h b (by simp) e.symm)
theorem all_last_mem {A : Nat → Asked} {l : List Nat} : ∀ {v : Ver} {a : Nat}, l.Pairwise (fun a b => (A a).proc < (A b).proc) → a ∈ l → (v.all A l).last (A a).proc = a := by
  induction l with
  | nil => intro v a _ h; simp at h
  | cons b l ih =>
    intro v a hp ha
    rw [List.pairwise_cons] at hp
    rcases List.mem_cons.1 ha with rfl | ha
    · have : ((v.one A a).all A l).last (A a).proc = (v.one A a).last (A a).proc := all_last (fun c hc e => by have := hp.1 c hc; omega)
      unfold Ver.all at this ⊢
      rw [List.foldl_cons, this]
      unfold Ver.one; simp only
      exact upd_same _ _ _
    · exact ih (v := v.one A b) hp.2 ha
theorem all_log {A : Nat → Asked} {l : List Nat} : ∀ {v : Ver}, ∃ t, (v.all A l).log = v.log ++ t := by
  induction l with
  | nil => intro v; exact ⟨[], by simp [Ver.all]⟩
  | cons b l ih =>
    intro v
    obtain ⟨t, ht⟩ := ih (v := v.one A b)
    refine ⟨⟨v.log.length, (A b).proc, (A b).many, (A b).op, (stepS v.st (A b).op).2⟩ :: t, ?_⟩
    unfold Ver.all at ht ⊢
    rw [List.foldl_cons, ht]
    unfold Ver.one
    simp
theorem VerOK.all {n : Nat} {start : St} {A : Nat → Asked} {m : Nat} : ∀ {l : List Nat} {v : Ver}, VerOK n start A m v → TodoOK n A m n l → (∀ a ∈ l, (A a).many = (A (v.last (A a).proc)).many + 1) → VerOK n start A m (v.all A l)
  | [], v, h, _, _ => h
  | b :: l, v, h, ht, hl => by
    have hb := ht.ne b (by simp)
    have hp := List.pairwise_cons.1 ht.up
    refine VerOK.all (v := v.one A b) (h.one hb.1 hb.2.1 hb.2.2 (hl b (by simp))) ⟨fun a ha => ht.ne a (List.mem_cons_of_mem _ ha), hp.2⟩ ?_
    intro a ha
    have := hp.1 a ha
    unfold Ver.one; simp only
    rw [upd_ne _ _ (by omega)]
    exact hl a (List.mem_cons_of_mem _ ha)
end Go.Proofs.Ytjfenjnnpikkdaa
/- Layer 16 in plain Lean: the invariant, and that each step keeps it. -/
namespace Go.Proofs.Ytjfenjnnpikkdaa
set_option linter.unusedVariables false
set_option maxRecDepth 100000
set_option linter.unusedSimpArgs false

def PS.Done (E : PS) (p : Nat) : Prop := E.now.last p = (E.procs p).own
def PS.Look (E : PS) (p : Nat) : Prop := (E.procs p).ph = .scan ∨ (E.procs p).ph = .swap
def PS.Good (n : Nat) (E : PS) (p : Nat) : Prop := E.Done p ∨ ∀ y, y < n → E.Look y → (E.procs y).seen = E.rootv → p < (E.procs y).q → (E.procs p).own ∈ (E.procs y).todo

structure LookOK (n : Nat) (E : PS) (p : Nat) : Prop where
  seen : (E.procs p).seen < E.vers.length
  qscan : (E.procs p).ph = .scan → (E.procs p).q < n
  qswap : (E.procs p).ph = .swap → (E.procs p).q = n
  todo : TodoOK n E.ask E.asked.length (E.procs p).q (E.procs p).todo
  root : (E.procs p).seen = E.rootv → ∀ a ∈ (E.procs p).todo, E.annv (E.ask a).proc = a ∧ E.now.last (E.ask a).proc ≠ a
  self : (E.procs p).seen = E.rootv → p < (E.procs p).q → E.Done p ∨ (E.procs p).own ∈ (E.procs p).todo
  ann0 : ∀ a ∈ (E.procs p).todo, E.annv (E.ask a).proc ≠ 0
  tries : ((E.procs p).tries = 0 ∧ ((E.procs p).seen = E.rootv ∨ E.Good n p)) ∨ ((E.procs p).tries = 1 ∧ E.Good n p ∧ ((E.procs p).seen = E.rootv ∨ E.Done p))

structure PInv (n : Nat) (start : St) (E : PS) : Prop where
  ask0 : 0 < E.asked.length ∧ E.ask 0 = noAsked
  askP : ∀ a, a ≠ 0 → a < E.asked.length → (E.ask a).proc < n ∧ 1 ≤ (E.ask a).many ∧ (E.ask a).many ≤ (E.procs (E.ask a).proc).many
  askI : ∀ a b, a ≠ 0 → b ≠ 0 → a < E.asked.length → b < E.asked.length → (E.ask a).proc = (E.ask b).proc → (E.ask a).many = (E.ask b).many → a = b
  root : E.rootv < E.vers.length
  now : VerOK n start E.ask E.asked.length E.now
  own : ∀ p, p < n → (E.procs p).own < E.asked.length ∧ (E.ask (E.procs p).own).many = (E.procs p).many ∧ ((E.procs p).own ≠ 0 → (E.ask (E.procs p).own).proc = p)
  ann : ∀ p, p < n → E.annv p < E.asked.length ∧ (E.annv p ≠ 0 → (E.ask (E.annv p)).proc = p)
  idle : ∀ p, p < n → (E.procs p).ph = .idle → E.annv p = (E.procs p).own ∧ E.Done p
  annc : ∀ p, p < n → (E.procs p).ph = .announce → E.now.last p = E.annv p ∧ (E.ask (E.annv p)).many + 1 = (E.procs p).many ∧ (E.procs p).own ≠ 0
  later : ∀ p, p < n → (E.procs p).ph ≠ .idle → (E.procs p).ph ≠ .announce → E.annv p = (E.procs p).own ∧ (E.procs p).own ≠ 0 ∧ (E.Done p ∨ (E.ask (E.now.last p)).many + 1 = (E.procs p).many)
  load : ∀ p, p < n → (E.procs p).ph = .load → (E.procs p).tries = 0 ∨ ((E.procs p).tries = 1 ∧ E.Good n p)
  look : ∀ p, p < n → E.Look p → LookOK n E p
  fin : ∀ p, p < n → (E.procs p).ph = .finish → E.Done p
  zero : ∀ i, i < E.vers.length → ∀ p, p < n → E.annv p = 0 → (E.ver i).last p = 0

/-- The operation of an announced one is no other's. -/
theorem PInv.own_ne {n : Nat} {start : St} {E : PS} (h : PInv n start E) {p : Nat} (hp : p < n) (h0 : 1 ≤ (E.procs p).many) : (E.procs p).own ≠ 0 := by
  intro e
  have := (h.own p hp).2.1
  rw [e, h.ask0.2] at this
  simp [noAsked] at this
  omega

theorem PInv.new {n : Nat} {start : St} : PInv n start (PS.new start) := by
  have ha : (PS.new start).ask 0 = noAsked := rfl
  refine ⟨⟨by simp [PS.new], ha⟩, ?_, ?_, by simp [PS.new], ?_, ?_, ?_, ?_, ?_, ?_, ?_, ?_, ?_, ?_⟩
  · intro a h0 hl; simp [PS.new] at hl; omega
  · intro a b h0 h1 hl; simp [PS.new] at hl; omega
  · refine ⟨.nil, rfl, fun p => by simp [PS.new, PS.now, PS.ver], fun p hp => ?_, fun p hp h0 => absurd rfl h0, fun p hp h0 => absurd rfl h0, fun r hr => ?_⟩
    · show countL [] p = ((PS.new start).ask 0).many
      rw [ha]; rfl
    · simp [PS.new, PS.now, PS.ver] at hr
  · intro p hp
    refine ⟨by simp [PS.new], ?_, fun h => absurd rfl h⟩
    show ((PS.new start).ask 0).many = 0
    rw [ha]; rfl
  · intro p hp
    exact ⟨by simp [PS.new], fun h => absurd rfl h⟩
  · intro p hp _; exact ⟨rfl, rfl⟩
  · intro p hp h; simp [PS.new] at h
  · intro p hp h; simp [PS.new] at h
  · intro p hp h; simp [PS.new] at h
  · intro p hp h; simp [PS.Look, PS.new] at h
  · intro p hp h; simp [PS.new] at h
  · intro i hi p hp _
    have : i = 0 := by simp [PS.new] at hi; omega
    subst this; rfl

section
variable {n : Nat} {start : St} {E : PS} {p : Nat}

theorem PInv.invoke (h : PInv n start E) (hp : p < n) (hb : (E.procs p).ph = .idle) (o : Op3) : PInv n start (E.invoke p o) := by
  have eA : ∀ a, a < E.asked.length → (E.invoke p o).ask a = E.ask a := fun a ha => PS.ask_append _ ha
  have eN : (E.invoke p o).ask E.asked.length = ⟨p, (E.procs p).many + 1, o⟩ := by simp [PS.ask, PS.invoke]
  have eL : (E.invoke p o).asked.length = E.asked.length + 1 := by simp [PS.invoke]
  have enow : (E.invoke p o).now = E.now := rfl
  have eann : (E.invoke p o).annv = E.annv := rfl
  have eP : ∀ q, q ≠ p → (E.invoke p o).procs q = E.procs q := fun q hq => upd_ne _ _ hq
  have eS : (E.invoke p o).procs p = { E.procs p with many := (E.procs p).many + 1, own := E.asked.length, ph := .announce } := upd_same _ _ _
  have eD : ∀ q, q ≠ p → ((E.invoke p o).Done q ↔ E.Done q) := fun q hq => by unfold PS.Done; rw [enow, eP q hq]
  have eLk : ∀ q, (E.invoke p o).Look q → q ≠ p ∧ E.Look q := by
    intro q hq
    by_cases e : q = p
    · subst e; unfold PS.Look at hq; rw [eS] at hq; simp at hq
    · unfold PS.Look at hq ⊢; rw [eP q e] at hq; exact ⟨e, hq⟩
  have eG : ∀ q, q ≠ p → E.Good n q → (E.invoke p o).Good n q := by
    intro q hq hg
    rcases hg with hg | hg
    · exact .inl ((eD q hq).2 hg)
    · refine .inr fun y hy hl hs hlt => ?_
      obtain ⟨hyp, hl'⟩ := eLk y hl
      rw [eP y hyp] at hs hlt ⊢
      rw [eP q hq]
      exact hg y hy hl' hs hlt
  have hlt := fun q hq => (h.own q hq).1
  obtain ⟨hi1, hi2⟩ := h.idle p hp hb
  have hown := h.own p hp
  refine ⟨⟨by rw [eL]; omega, by rw [eA 0 h.ask0.1]; exact h.ask0.2⟩, ?_, ?_, h.root, ?_, ?_, ?_, ?_, ?_, ?_, ?_, ?_, ?_, h.zero⟩
  · intro a h0 ha
    by_cases e : a = E.asked.length
    · subst e
      rw [eN, eS]; simp; omega
    · rw [eL] at ha
      rw [eA a (by omega)]
      obtain ⟨h1, h2, h3⟩ := h.askP a h0 (by omega)
      refine ⟨h1, h2, ?_⟩
      by_cases e2 : (E.ask a).proc = p
      · rw [e2, eS]; rw [e2] at h3; simp; omega
      · rw [eP _ e2]; exact h3
  · intro a b h0 h1 ha hb' e1 e2
    rw [eL] at ha hb'
    by_cases ea : a = E.asked.length <;> by_cases eb : b = E.asked.length
    · omega
    · subst ea
      rw [eN, eA b (by omega)] at e1 e2
      have := (h.askP b h1 (by omega)).2.2
      rw [← e1] at this
      simp at this e2; omega
    · subst eb
      rw [eN, eA a (by omega)] at e1 e2
      have := (h.askP a h0 (by omega)).2.2
      rw [e1] at this
      simp at this e2; omega
    · rw [eA a (by omega), eA b (by omega)] at e1 e2
      exact h.askI a b h0 h1 (by omega) (by omega) e1 e2
  · rw [enow]
    exact h.now.mono (by rw [eL]; omega) eA
  · intro q hq
    by_cases e : q = p
    · subst e
      rw [eS]; simp only
      rw [eN, eL]; simp
    · rw [eP q e, eL, eA _ (hlt q hq)]
      have := h.own q hq
      exact ⟨by omega, this.2⟩
  · intro q hq
    rw [eann, eL, eA _ (h.ann q hq).1]
    exact ⟨by have := (h.ann q hq).1; omega, (h.ann q hq).2⟩
  · intro q hq hph
    have e : q ≠ p := by rintro rfl; rw [eS] at hph; simp at hph
    rw [eP q e] at hph ⊢
    exact ⟨(h.idle q hq hph).1, (eD q e).2 (h.idle q hq hph).2⟩
  · intro q hq hph
    rw [eann, enow]
    by_cases e : q = p
    · subst e
      rw [eS]; simp only
      refine ⟨hi2.trans hi1.symm, ?_, by have := h.ask0.1; omega⟩
      rw [eA _ (h.ann q hq).1, hi1, hown.2.1]
    · rw [eP q e] at hph ⊢
      rw [eA _ (h.ann q hq).1]
      exact h.annc q hq hph
  · intro q hq h1 h2
    have e : q ≠ p := by rintro rfl; rw [eS] at h2; simp at h2
    rw [eP q e] at h1 h2 ⊢
    rw [eann, enow, eA _ (h.now.lt q)]
    obtain ⟨h3, h4, h5⟩ := h.later q hq h1 h2
    exact ⟨h3, h4, h5.imp (eD q e).2 id⟩
  · intro q hq hph
    have e : q ≠ p := by rintro rfl; rw [eS] at hph; simp at hph
    rw [eP q e] at hph ⊢
    exact (h.load q hq hph).imp id fun ⟨h1, h2⟩ => ⟨h1, eG q e h2⟩
  · intro q hq hl
    obtain ⟨e, hl'⟩ := eLk q hl
    have k := h.look q hq hl'
    have h1 := k.todo
    refine ⟨?_, ?_, ?_, ?_, ?_, ?_, ?_, ?_⟩
    · rw [eP q e]; exact k.seen
    · rw [eP q e]; exact k.qscan
    · rw [eP q e]; exact k.qswap
    · rw [eP q e, eL]
      refine ⟨fun a ha => ?_, ?_⟩
      · obtain ⟨g1, g2, g3⟩ := h1.ne a ha
        rw [eA a g2]; exact ⟨g1, by omega, g3⟩
      · refine h1.up.imp_of_mem fun {a b} ha hb g => ?_
        rw [eA a (h1.ne a ha).2.1, eA b (h1.ne b hb).2.1]; exact g
    · rw [eP q e]
      intro hs a ha
      rw [eA a (h1.ne a ha).2.1]
      exact k.root hs a ha
    · rw [eP q e]
      intro hs hlt
      exact (k.self hs hlt).imp (eD q e).2 id
    · rw [eP q e]
      intro a ha
      rw [eA a (h1.ne a ha).2.1]
      exact k.ann0 a ha
    · rw [eP q e]
      exact k.tries.imp (fun ⟨g1, g2⟩ => ⟨g1, g2.imp id (eG q e)⟩) (fun ⟨g1, g2, g3⟩ => ⟨g1, eG q e g2, g3.imp id (eD q e).2⟩)
  · intro q hq hph
    have e : q ≠ p := by rintro rfl; rw [eS] at hph; simp at hph
    rw [eP q e] at hph
    exact (eD q e).2 (h.fin q hq hph)

/-- A step that leaves the root, and what is announced, and is not one of those who look: in general. -/
theorem PInv.quiet (h : PInv n start E) (hp : p < n) {x : Pr} {vers : List Ver} (hown : x.own = (E.procs p).own) (hmany : x.many = (E.procs p).many) (hvers : ∃ t, vers = E.vers ++ t ∧ ∀ v ∈ t, ∀ q, q < n → E.annv q = 0 → v.last q = 0)
    (h1 : x.ph = .idle → E.annv p = x.own ∧ E.now.last p = x.own) (h2 : x.ph ≠ .announce) (h3 : x.ph ≠ .idle → E.annv p = x.own ∧ x.own ≠ 0 ∧ (E.now.last p = x.own ∨ (E.ask (E.now.last p)).many + 1 = x.many))
    (hlook : (x.ph = .scan ∨ x.ph = .swap) → x.seen = E.rootv → ∀ q, q < n → q < x.q → (E.procs q).ph ≠ .idle → (E.procs q).ph ≠ .announce → E.Good n q → E.now.last q = (E.procs q).own ∨ (E.procs q).own ∈ x.todo)
    (hself : (x.ph = .scan ∨ x.ph = .swap) → x.seen = E.rootv → p < x.q → E.now.last p = (E.procs p).own ∨ (E.procs p).own ∈ x.todo)
    (h4 : x.ph = .load → x.tries = 0 ∨ (x.tries = 1 ∧ E.Good n p))
    (h5 : (x.ph = .scan ∨ x.ph = .swap) → x.seen < vers.length ∧ (x.ph = .scan → x.q < n) ∧ (x.ph = .swap → x.q = n) ∧ TodoOK n E.ask E.asked.length x.q x.todo ∧ (x.seen = E.rootv → ∀ a ∈ x.todo, E.annv (E.ask a).proc = a ∧ E.now.last (E.ask a).proc ≠ a) ∧ (∀ a ∈ x.todo, E.annv (E.ask a).proc ≠ 0) ∧
      ((x.tries = 0 ∧ (x.seen = E.rootv ∨ E.Good n p)) ∨ (x.tries = 1 ∧ E.Good n p ∧ (x.seen = E.rootv ∨ E.Done p))))
    (h6 : x.ph = .finish → E.now.last p = x.own) (hph : (E.procs p).ph ≠ .idle) (hph2 : (E.procs p).ph ≠ .announce) : PInv n start { E with procs := upd E.procs p x, vers := vers } := by
  obtain ⟨t, rfl, ht⟩ := hvers
  generalize hE : ({ E with procs := upd E.procs p x, vers := E.vers ++ t } : PS) = E'
  have eA : E'.ask = E.ask := by subst hE; rfl
  have eL : E'.asked = E.asked := by subst hE; rfl
  have enow : E'.now = E.now := by
    subst hE
    unfold PS.now PS.ver
    simp only
    rw [List.getD_eq_getElem?_getD, List.getD_eq_getElem?_getD, List.getElem?_append_left h.root]
  have eann : E'.annv = E.annv := by subst hE; rfl
  have eroot : E'.rootv = E.rootv := by subst hE; rfl
  have evers : E.vers.length ≤ E'.vers.length := by subst hE; simp
  have eP : ∀ q, q ≠ p → E'.procs q = E.procs q := fun q hq => by subst hE; exact upd_ne _ _ hq
  have eS : E'.procs p = x := by subst hE; exact upd_same _ _ _
  have hv' : E'.vers = E.vers ++ t := by subst hE; rfl
  clear hE
  have eO : ∀ q, (E'.procs q).own = (E.procs q).own := fun q => by
    by_cases e : q = p
    · subst e; rw [eS, hown]
    · rw [eP q e]
  have eM : ∀ q, (E'.procs q).many = (E.procs q).many := fun q => by
    by_cases e : q = p
    · subst e; rw [eS, hmany]
    · rw [eP q e]
  have eD : ∀ q, (E'.Done q ↔ E.Done q) := fun q => by unfold PS.Done; rw [enow, eO]
  have eG : ∀ q, q < n → (E.procs q).ph ≠ .idle → (E.procs q).ph ≠ .announce → E.Good n q → E'.Good n q := by
    intro q hq g1 g2 hg
    rcases id hg with hg' | hg'
    · exact .inl ((eD q).2 hg')
    · by_cases hd : E.Done q
      · exact .inl ((eD q).2 hd)
      · refine .inr fun y hy hl hs hlt => ?_
        rw [eO]
        by_cases e : y = p
        · subst e
          unfold PS.Look at hl
          rw [eS] at hl hs hlt ⊢
          rw [eroot] at hs
          exact (hlook hl hs q hq hlt g1 g2 hg).resolve_left hd
        · unfold PS.Look at hl
          rw [eP y e] at hl hs hlt ⊢
          rw [eroot] at hs
          exact hg' y hy hl hs hlt
  refine ⟨by rw [eA, eL]; exact h.ask0, ?_, by rw [eA, eL]; exact h.askI, ?_, ?_, ?_, ?_, ?_, ?_, ?_, ?_, ?_, ?_, ?_⟩
  · intro a g0 ha
    rw [eA, eM]; rw [eL] at ha
    exact h.askP a g0 ha
  · rw [eroot]; have := h.root; omega
  · rw [eA, eL, enow]; exact h.now
  · intro q hq; rw [eA, eL, eO, eM]; exact h.own q hq
  · intro q hq; rw [eA, eL, eann]; exact h.ann q hq
  · intro q hq hi
    rw [eann, eO]
    by_cases e : q = p
    · subst e
      rw [eS] at hi
      have := h1 hi
      rw [hown] at this
      exact ⟨this.1, (eD q).2 this.2⟩
    · rw [eP q e] at hi
      exact ⟨(h.idle q hq hi).1, (eD q).2 (h.idle q hq hi).2⟩
  · intro q hq hi
    by_cases e : q = p
    · subst e
      rw [eS] at hi
      exact absurd hi h2
    · rw [eP q e] at hi ⊢
      rw [enow, eann, eA]
      exact h.annc q hq hi
  · intro q hq g1 g2
    rw [eann, enow, eA, eO, eM]
    by_cases e : q = p
    · subst e
      rw [eS] at g1
      have := h3 g1
      rw [hown, hmany] at this
      exact ⟨this.1, this.2.1, this.2.2.imp (eD q).2 id⟩
    · rw [eP q e] at g1 g2
      obtain ⟨h7, h8, h9⟩ := h.later q hq g1 g2
      exact ⟨h7, h8, h9.imp (eD q).2 id⟩
  · intro q hq hi
    by_cases e : q = p
    · subst e
      rw [eS] at hi ⊢
      exact (h4 hi).imp id fun ⟨g1, g2⟩ => ⟨g1, eG q hq hph hph2 g2⟩
    · rw [eP q e] at hi ⊢
      exact (h.load q hq hi).imp id fun ⟨g1, g2⟩ => ⟨g1, eG q hq (by rw [hi]; simp) (by rw [hi]; simp) g2⟩
  · intro q hq hl
    by_cases e : q = p
    · subst e
      unfold PS.Look at hl
      rw [eS] at hl
      obtain ⟨g1, g2, g3, g4, g5, g7, g6⟩ := h5 hl
      refine ⟨?_, ?_, ?_, ?_, ?_, ?_, ?_, ?_⟩ <;> rw [eS]
      · rw [hv']; exact g1
      · exact g2
      · exact g3
      · rw [eA, eL]; exact g4
      · rw [eroot, eA, eann, enow]; exact g5
      · intro hs hlt
        rw [eroot] at hs
        have := hself hl hs hlt
        rw [hown]
        exact this.imp (eD q).2 id
      · rw [eann, eA]; exact g7
      · rw [eroot]
        exact g6.imp (fun ⟨g1, g2⟩ => ⟨g1, g2.imp id (eG q hq hph hph2)⟩) (fun ⟨g1, g2, g3⟩ => ⟨g1, eG q hq hph hph2 g2, g3.imp id (eD q).2⟩)
    · have hl' : E.Look q := by unfold PS.Look at hl ⊢; rw [eP q e] at hl; exact hl
      have hn1 : (E.procs q).ph ≠ .idle := by rcases hl' with h | h <;> rw [h] <;> simp
      have hn2 : (E.procs q).ph ≠ .announce := by rcases hl' with h | h <;> rw [h] <;> simp
      have k := h.look q hq hl'
      refine ⟨?_, ?_, ?_, ?_, ?_, ?_, ?_, ?_⟩ <;> rw [eP q e]
      · have := k.seen; omega
      · exact k.qscan
      · exact k.qswap
      · rw [eA, eL]; exact k.todo
      · rw [eroot, eA, eann, enow]; exact k.root
      · rw [eroot]; intro hs hlt; exact (k.self hs hlt).imp (eD q).2 id
      · rw [eann, eA]; exact k.ann0
      · rw [eroot]
        exact k.tries.imp (fun ⟨g1, g2⟩ => ⟨g1, g2.imp id (eG q hq hn1 hn2)⟩) (fun ⟨g1, g2, g3⟩ => ⟨g1, eG q hq hn1 hn2 g2, g3.imp id (eD q).2⟩)
  · intro q hq hi
    by_cases e : q = p
    · subst e
      rw [eS] at hi
      exact (eD q).2 (by have := h6 hi; rw [hown] at this; exact this)
    · rw [eP q e] at hi
      exact (eD q).2 (h.fin q hq hi)
  · intro i hi q hq h0
    rw [eann] at h0
    unfold PS.ver
    rw [hv'] at hi ⊢
    by_cases e : i < E.vers.length
    · rw [List.getD_eq_getElem?_getD, List.getElem?_append_left e, ← List.getD_eq_getElem?_getD]
      exact h.zero i e q hq h0
    · rw [List.getD_eq_getElem?_getD, List.getElem?_append_right (by omega)]
      have hlt : i - E.vers.length < t.length := by simp at hi; omega
      rw [List.getElem?_eq_getElem hlt]
      exact ht _ (List.getElem_mem _) q hq h0

theorem PInv.load_ (h : PInv n start E) (hp : p < n) (hb : (E.procs p).ph = .load) : PInv n start (E.load p) := by
  have hl := h.later p hp (by rw [hb]; simp) (by rw [hb]; simp)
  refine h.quiet (x := { E.procs p with seen := E.rootv, q := 0, todo := [], ph := .scan }) hp rfl rfl ⟨[], by simp⟩ (by simp) (by simp) (fun _ => hl) (by simp) (by simp) (by simp) (fun _ => ?_) (by simp) (by rw [hb]; simp) (by rw [hb]; simp)
  refine ⟨h.root, fun _ => by simp; omega, by simp, ⟨by simp, by simp⟩, by simp, by simp, ?_⟩
  rcases h.load p hp hb with g | ⟨g1, g2⟩
  · exact .inl ⟨g, .inl rfl⟩
  · exact .inr ⟨g1, g2, .inl rfl⟩

theorem PInv.scan_ (h : PInv n start E) (hp : p < n) (hb : (E.procs p).ph = .scan) : PInv n start (E.scan n p) := by
  have hl := h.later p hp (by rw [hb]; simp) (by rw [hb]; simp)
  have k := h.look p hp (.inl hb)
  have hq := k.qscan hb
  have hann := h.ann _ hq
  have hph : (if (E.procs p).q + 1 < n then Ph.scan else .swap) = .scan ∨ (if (E.procs p).q + 1 < n then Ph.scan else .swap) = .swap := by split <;> simp
  have new : ∀ q, q = (E.procs p).q → E.annv q = (E.procs q).own → (E.procs p).seen = E.rootv → E.now.last q = (E.procs q).own ∨ (E.procs q).own ∈ (if E.annv (E.procs p).q = (E.ver (E.procs p).seen).last (E.procs p).q then (E.procs p).todo else (E.procs p).todo ++ [E.annv (E.procs p).q]) := by
    intro q e hl2 hs
    have ev : (E.ver (E.procs p).seen).last (E.procs p).q = E.now.last (E.procs p).q := by rw [hs]; rfl
    rw [ev]
    subst e
    rw [hl2]
    by_cases c : (E.procs (E.procs p).q).own = E.now.last (E.procs p).q
    · exact .inl c.symm
    · rw [if_neg c]; right; simp
  have old : ∀ b, b ∈ (E.procs p).todo → b ∈ (if E.annv (E.procs p).q = (E.ver (E.procs p).seen).last (E.procs p).q then (E.procs p).todo else (E.procs p).todo ++ [E.annv (E.procs p).q]) := by
    intro b hb; split
    · exact hb
    · exact List.mem_append_left _ hb
  unfold PS.scan
  simp only
  refine h.quiet (x := { E.procs p with todo := if E.annv (E.procs p).q = (E.ver (E.procs p).seen).last (E.procs p).q then (E.procs p).todo else (E.procs p).todo ++ [E.annv (E.procs p).q], q := (E.procs p).q + 1, ph := if (E.procs p).q + 1 < n then .scan else .swap }) hp rfl rfl ⟨[], by simp⟩ ?_ ?_ (fun _ => hl) ?_ ?_ ?_ (fun _ => ?_) ?_ (by rw [hb]; simp) (by rw [hb]; simp)
  · intro e; simp only at e; rw [e] at hph; simp at hph
  · intro e; simp only at e; rw [e] at hph; simp at hph
  · intro _ hs q hqn hlt g1 g2 hg
    simp only at hs hlt ⊢
    by_cases e : q = (E.procs p).q
    · exact new q e (h.later q hqn g1 g2).1 hs
    · rcases hg with hg | hg
      · exact .inl hg
      · exact .inr (old _ (hg p hp (.inl hb) hs (by omega)))
  · intro _ hs hlt
    simp only at hs hlt ⊢
    by_cases e : p = (E.procs p).q
    · exact new p e hl.1 hs
    · exact (k.self hs (by omega)).imp id (old _)
  · intro e; simp only at e; rw [e] at hph; simp at hph
  · simp only
    have h0 : E.annv (E.procs p).q ≠ (E.ver (E.procs p).seen).last (E.procs p).q → E.annv (E.procs p).q ≠ 0 := by
      intro c e
      exact c (e.trans (h.zero _ k.seen _ hq e).symm)
    refine ⟨k.seen, ?_, ?_, ?_, ?_, ?_, k.tries⟩
    · intro e; split at e
      · assumption
      · simp at e
    · intro e; split at e
      · simp at e
      · omega
    · split
      · exact ⟨fun a ha => by have := k.todo.ne a ha; omega, k.todo.up⟩
      · rename_i c
        have h0 := h0 c
        refine ⟨fun a ha => ?_, ?_⟩
        · rcases List.mem_append.1 ha with ha | ha
          · have := k.todo.ne a ha; omega
          · rw [List.mem_singleton.1 ha]
            exact ⟨h0, hann.1, by rw [hann.2 h0]; omega⟩
        · rw [List.pairwise_append]
          refine ⟨k.todo.up, by simp, fun a ha b hb => ?_⟩
          rw [List.mem_singleton.1 hb, hann.2 h0]
          exact (k.todo.ne a ha).2.2
    · intro hs a ha
      split at ha
      · exact k.root hs a ha
      · rename_i c
        rcases List.mem_append.1 ha with ha | ha
        · exact k.root hs a ha
        · have e := List.mem_singleton.1 ha
          subst e
          rw [hann.2 (h0 c)]
          refine ⟨rfl, fun e => c ?_⟩
          rw [hs]; exact e.symm
    · intro a ha
      split at ha
      · exact k.ann0 a ha
      · rename_i c
        rcases List.mem_append.1 ha with ha | ha
        · exact k.ann0 a ha
        · have e := List.mem_singleton.1 ha
          subst e
          rw [hann.2 (h0 c)]
          exact h0 c
  · intro e; simp only at e; rw [e] at hph; simp at hph

theorem PInv.finish_ (h : PInv n start E) (hp : p < n) (hb : (E.procs p).ph = .finish) : PInv n start (E.finish p) := by
  have hl := h.later p hp (by rw [hb]; simp) (by rw [hb]; simp)
  exact h.quiet (x := { E.procs p with ph := .idle }) (vers := E.vers) hp rfl rfl ⟨[], by simp⟩ (fun _ => ⟨hl.1, h.fin p hp hb⟩) (by simp) (by simp) (by simp) (by simp) (by simp) (by simp) (by simp) (by rw [hb]; simp) (by rw [hb]; simp)

/-- A swap that does not come through. -/
theorem PInv.swap_no (h : PInv n start E) (hp : p < n) (hb : (E.procs p).ph = .swap) (hr : E.rootv ≠ (E.procs p).seen) : PInv n start (E.swap p) := by
  have hl := h.later p hp (by rw [hb]; simp) (by rw [hb]; simp)
  have k := h.look p hp (.inr hb)
  unfold PS.swap
  simp only
  rw [if_neg hr]
  have hph : (if (E.procs p).tries + 1 < 2 then Ph.load else .finish) = .load ∨ (if (E.procs p).tries + 1 < 2 then Ph.load else .finish) = .finish := by split <;> simp
  refine h.quiet (x := { E.procs p with tries := (E.procs p).tries + 1, ph := if (E.procs p).tries + 1 < 2 then .load else .finish }) (vers := E.vers ++ [(E.ver (E.procs p).seen).all E.ask (E.procs p).todo]) hp rfl rfl ⟨_, rfl, ?_⟩ ?_ ?_ (fun _ => hl) ?_ ?_ ?_ ?_ ?_ (by rw [hb]; simp) (by rw [hb]; simp)
  · intro v hv q hq h0
    rw [List.mem_singleton.1 hv, all_last (fun a ha e => k.ann0 a ha (e ▸ h0))]
    exact h.zero _ k.seen q hq h0
  · intro e; simp only at e; rw [e] at hph; simp at hph
  · intro e; simp only at e; rw [e] at hph; simp at hph
  · intro e; simp only at e; rcases e with e | e <;> rw [e] at hph <;> simp at hph
  · intro e; simp only at e; rcases e with e | e <;> rw [e] at hph <;> simp at hph
  · intro e
    simp only at e ⊢
    rcases k.tries with ⟨t1, t2⟩ | ⟨t1, t2, t3⟩
    · exact .inr ⟨by omega, t2.resolve_left (fun e => hr e.symm)⟩
    · rw [t1] at e; simp at e
  · intro e; simp only at e; rcases e with e | e <;> rw [e] at hph <;> simp at hph
  · intro e
    simp only at e ⊢
    rcases k.tries with ⟨t1, t2⟩ | ⟨t1, t2, t3⟩
    · rw [t1] at e; simp at e
    · exact t3.resolve_left (fun e => hr e.symm)
end
end Go.Proofs.Ytjfenjnnpikkdaa
/- Layer 16 in plain Lean: announcing, and a swap that comes through; the object as its callers see it. -/
namespace Go.Proofs.Ytjfenjnnpikkdaa
set_option linter.unusedVariables false
set_option maxRecDepth 100000
set_option linter.unusedSimpArgs false
section
variable {n : Nat} {start : St} {E : PS} {p : Nat}

theorem PInv.announce_ (h : PInv n start E) (hp : p < n) (hb : (E.procs p).ph = .announce) : PInv n start (E.announce p) := by
  have hc := h.annc p hp hb
  have hown := h.own p hp
  generalize hE : E.announce p = E'
  have eA : E'.ask = E.ask := by subst hE; rfl
  have eL : E'.asked = E.asked := by subst hE; rfl
  have enow : E'.now = E.now := by subst hE; rfl
  have evers : E'.vers = E.vers := by subst hE; rfl
  have ever : E'.ver = E.ver := by subst hE; rfl
  have eroot : E'.rootv = E.rootv := by subst hE; rfl
  have eann : ∀ q, q ≠ p → E'.annv q = E.annv q := fun q hq => by subst hE; exact upd_ne _ _ hq
  have eannp : E'.annv p = (E.procs p).own := by subst hE; exact upd_same _ _ _
  have eP : ∀ q, q ≠ p → E'.procs q = E.procs q := fun q hq => by subst hE; exact upd_ne _ _ hq
  have eS : E'.procs p = { E.procs p with tries := 0, ph := .load } := by subst hE; exact upd_same _ _ _
  clear hE
  have eO : ∀ q, (E'.procs q).own = (E.procs q).own := fun q => by
    by_cases e : q = p
    · subst e; rw [eS]
    · rw [eP q e]
  have eM : ∀ q, (E'.procs q).many = (E.procs q).many := fun q => by
    by_cases e : q = p
    · subst e; rw [eS]
    · rw [eP q e]
  have eD : ∀ q, (E'.Done q ↔ E.Done q) := fun q => by unfold PS.Done; rw [enow, eO]
  have eLk : ∀ q, E'.Look q → q ≠ p ∧ E.Look q := by
    intro q hq
    by_cases e : q = p
    · subst e; unfold PS.Look at hq; rw [eS] at hq; simp at hq
    · unfold PS.Look at hq ⊢; rw [eP q e] at hq; exact ⟨e, hq⟩
  have eG : ∀ q, E.Good n q → E'.Good n q := by
    intro q hg
    rcases hg with hg | hg
    · exact .inl ((eD q).2 hg)
    · refine .inr fun y hy hl hs hlt => ?_
      obtain ⟨hyp, hl'⟩ := eLk y hl
      rw [eP y hyp] at hs hlt ⊢
      rw [eroot] at hs
      rw [eO]
      exact hg y hy hl' hs hlt
  refine ⟨by rw [eA, eL]; exact h.ask0, ?_, by rw [eA, eL]; exact h.askI, ?_, ?_, ?_, ?_, ?_, ?_, ?_, ?_, ?_, ?_, ?_⟩
  · intro a g0 ha
    rw [eA, eM]; rw [eL] at ha
    exact h.askP a g0 ha
  · rw [eroot, evers]; exact h.root
  · rw [eA, eL, enow]; exact h.now
  · intro q hq; rw [eA, eL, eO, eM]; exact h.own q hq
  · intro q hq
    rw [eA, eL]
    by_cases e : q = p
    · subst e; rw [eannp]; exact ⟨hown.1, hown.2.2⟩
    · rw [eann q e]; exact h.ann q hq
  · intro q hq hi
    have e : q ≠ p := by rintro rfl; rw [eS] at hi; simp at hi
    rw [eP q e] at hi
    rw [eann q e, eO]
    exact ⟨(h.idle q hq hi).1, (eD q).2 (h.idle q hq hi).2⟩
  · intro q hq hi
    have e : q ≠ p := by rintro rfl; rw [eS] at hi; simp at hi
    rw [eP q e] at hi ⊢
    rw [enow, eann q e, eA]
    exact h.annc q hq hi
  · intro q hq g1 g2
    rw [enow, eA, eO, eM]
    by_cases e : q = p
    · subst e
      rw [eannp]
      exact ⟨rfl, hc.2.2, .inr (by rw [hc.1]; exact hc.2.1)⟩
    · rw [eP q e] at g1 g2
      rw [eann q e]
      obtain ⟨h7, h8, h9⟩ := h.later q hq g1 g2
      exact ⟨h7, h8, h9.imp (eD q).2 id⟩
  · intro q hq hi
    by_cases e : q = p
    · subst e; rw [eS]; exact .inl rfl
    · rw [eP q e] at hi ⊢
      exact (h.load q hq hi).imp id fun ⟨g1, g2⟩ => ⟨g1, eG q g2⟩
  · intro q hq hl
    obtain ⟨e, hl'⟩ := eLk q hl
    have k := h.look q hq hl'
    refine ⟨?_, ?_, ?_, ?_, ?_, ?_, ?_, ?_⟩ <;> rw [eP q e]
    · rw [evers]; exact k.seen
    · exact k.qscan
    · exact k.qswap
    · rw [eA, eL]; exact k.todo
    · rw [eroot, eA, enow]
      intro hs a ha
      have g := k.root hs a ha
      by_cases e2 : (E.ask a).proc = p
      · exfalso; rw [e2] at g; exact g.2 (hc.1.trans g.1)
      · rw [eann _ e2]; exact g
    · rw [eroot]; intro hs hlt; exact (k.self hs hlt).imp (eD q).2 id
    · rw [eA]
      intro a ha
      by_cases e2 : (E.ask a).proc = p
      · rw [e2, eannp]; exact hc.2.2
      · rw [eann _ e2]; exact k.ann0 a ha
    · rw [eroot]
      exact k.tries.imp (fun ⟨g1, g2⟩ => ⟨g1, g2.imp id (eG q)⟩) (fun ⟨g1, g2, g3⟩ => ⟨g1, eG q g2, g3.imp id (eD q).2⟩)
  · intro q hq hi
    have e : q ≠ p := by rintro rfl; rw [eS] at hi; simp at hi
    rw [eP q e] at hi
    exact (eD q).2 (h.fin q hq hi)
  · intro i hi q hq h0
    rw [evers] at hi
    rw [ever]
    have e : q ≠ p := by rintro rfl; rw [eannp] at h0; exact hc.2.2 h0
    rw [eann q e] at h0
    exact h.zero i hi q hq h0

theorem PInv.swap_yes (h : PInv n start E) (hp : p < n) (hb : (E.procs p).ph = .swap) (hr : E.rootv = (E.procs p).seen) : PInv n start (E.swap p) ∧ ∃ t, (E.swap p).now.log = E.now.log ++ t := by
  have hl := h.later p hp (by rw [hb]; simp) (by rw [hb]; simp)
  have k := h.look p hp (.inr hb)
  have hqs := k.qswap hb
  have ktodo := k.todo
  rw [hqs] at ktodo
  have hsv : E.ver (E.procs p).seen = E.now := by rw [← hr]; rfl
  generalize hW : E.now.all E.ask (E.procs p).todo = W
  have hlast : ∀ q, q < n → (∃ a ∈ (E.procs p).todo, (E.ask a).proc = q ∧ E.annv q = a ∧ E.now.last q ≠ a ∧ W.last q = a) ∨ ((∀ a ∈ (E.procs p).todo, (E.ask a).proc ≠ q) ∧ W.last q = E.now.last q) := by
    intro q hqn
    by_cases c : ∃ a ∈ (E.procs p).todo, (E.ask a).proc = q
    · obtain ⟨a, ha, e⟩ := c
      obtain ⟨g1, g2⟩ := k.root hr.symm a ha
      refine .inl ⟨a, ha, e, e ▸ g1, e ▸ g2, ?_⟩
      rw [← hW, ← e]
      exact all_last_mem k.todo.up ha
    · have c' : ∀ a ∈ (E.procs p).todo, (E.ask a).proc ≠ q := fun a ha e => c ⟨a, ha, e⟩
      exact .inr ⟨c', by rw [← hW]; exact all_last c'⟩
  have hmem : ∀ q, q < n → (E.procs q).own ∈ (E.procs p).todo → W.last q = (E.procs q).own := by
    intro q hqn hin
    have g := k.todo.ne _ hin
    have e : (E.ask (E.procs q).own).proc = q := (h.own q hqn).2.2 g.1
    rw [← hW]
    have := all_last_mem (A := E.ask) (v := E.now) k.todo.up hin
    rw [e] at this
    exact this
  have hdone : ∀ q, q < n → E.Done q → E.annv q = (E.procs q).own → W.last q = (E.procs q).own := by
    intro q hqn hd ha
    rcases hlast q hqn with ⟨a, h1, h2, h3, h4, h5⟩ | ⟨_, h2⟩
    · rw [h5, ← h3, ha]
    · rw [h2]; exact hd
  have hWok : VerOK n start E.ask E.asked.length W := by
    rw [← hW]
    refine h.now.all ktodo fun a ha => ?_
    obtain ⟨g1, g2⟩ := k.root hr.symm a ha
    obtain ⟨g3, g4, g5⟩ := ktodo.ne a ha
    have i1 : (E.procs (E.ask a).proc).ph ≠ .idle := fun e => g2 ((h.idle _ g5 e).2.trans ((h.idle _ g5 e).1.symm.trans g1))
    have i2 : (E.procs (E.ask a).proc).ph ≠ .announce := fun e => g2 (by have := h.annc _ g5 e; rw [this.1, g1])
    obtain ⟨l1, l2, l3⟩ := h.later _ g5 i1 i2
    have eo : (E.procs (E.ask a).proc).own = a := by rw [← l1, g1]
    rcases l3 with l3 | l3
    · exact absurd (Eq.trans l3 eo) g2
    · have := (h.own _ g5).2.1
      rw [eo] at this
      omega
  generalize hE : E.swap p = E'
  have eA : E'.ask = E.ask := by subst hE; rfl
  have eL : E'.asked = E.asked := by subst hE; rfl
  have evers : E'.vers = E.vers ++ [W] := by subst hE; unfold PS.swap; simp only; rw [hsv, hW]
  have eroot : E'.rootv = E.vers.length := by subst hE; unfold PS.swap; simp only; rw [if_pos hr]
  have enow : E'.now = W := by unfold PS.now PS.ver; rw [eroot, evers]; simp
  have eann : E'.annv = E.annv := by subst hE; rfl
  have eP : ∀ q, q ≠ p → E'.procs q = E.procs q := fun q hq => by subst hE; exact upd_ne _ _ hq
  have eS : E'.procs p = { E.procs p with tries := (E.procs p).tries + 1, ph := if (E.procs p).tries + 1 < 2 then .load else .finish } := by subst hE; exact upd_same _ _ _
  have hph : (E'.procs p).ph = .load ∨ (E'.procs p).ph = .finish := by rw [eS]; simp only; split <;> simp
  clear hE
  have eO : ∀ q, (E'.procs q).own = (E.procs q).own := fun q => by
    by_cases e : q = p
    · subst e; rw [eS]
    · rw [eP q e]
  have eM : ∀ q, (E'.procs q).many = (E.procs q).many := fun q => by
    by_cases e : q = p
    · subst e; rw [eS]
    · rw [eP q e]
  have eLk : ∀ q, E'.Look q → q ≠ p ∧ E.Look q := by
    intro q hq
    by_cases e : q = p
    · subst e; unfold PS.Look at hq; rcases hph with h | h <;> rw [h] at hq <;> simp at hq
    · unfold PS.Look at hq ⊢; rw [eP q e] at hq; exact ⟨e, hq⟩
  have eG : ∀ q, E'.Good n q := fun q => .inr fun y hy hl hs hlt => by
    obtain ⟨hyp, hl'⟩ := eLk y hl
    rw [eP y hyp, eroot] at hs
    have := (h.look y hy hl').seen
    omega
  refine ⟨⟨by rw [eA, eL]; exact h.ask0, ?_, by rw [eA, eL]; exact h.askI, ?_, ?_, ?_, ?_, ?_, ?_, ?_, ?_, ?_, ?_, ?_⟩, ?_⟩
  · intro a g0 ha
    rw [eA, eM]; rw [eL] at ha
    exact h.askP a g0 ha
  · rw [eroot, evers]; simp
  · rw [eA, eL, enow]; exact hWok
  · intro q hq; rw [eA, eL, eO, eM]; exact h.own q hq
  · intro q hq; rw [eA, eL, eann]; exact h.ann q hq
  · intro q hq hi
    have e : q ≠ p := by rintro rfl; rcases hph with h | h <;> rw [h] at hi <;> simp at hi
    rw [eP q e] at hi
    obtain ⟨g1, g2⟩ := h.idle q hq hi
    unfold PS.Done
    rw [eann, eO, enow]
    exact ⟨g1, hdone q hq g2 g1⟩
  · intro q hq hi
    have e : q ≠ p := by rintro rfl; rcases hph with h | h <;> rw [h] at hi <;> simp at hi
    rw [eP q e] at hi ⊢
    rw [enow, eann, eA]
    obtain ⟨g1, g2, g3⟩ := h.annc q hq hi
    refine ⟨?_, g2, g3⟩
    rcases hlast q hq with ⟨a, h1, h2, h3, h4, h5⟩ | ⟨_, h2⟩
    · exact absurd (g1.trans h3) h4
    · rw [h2]; exact g1
  · intro q hq g1 g2
    unfold PS.Done
    rw [eann, enow, eA, eO, eM]
    have key : (E.procs q).ph ≠ .idle ∧ (E.procs q).ph ≠ .announce := by
      by_cases e : q = p
      · subst e; rw [hb]; simp
      · rw [eP q e] at g1 g2; exact ⟨g1, g2⟩
    obtain ⟨h7, h8, h9⟩ := h.later q hq key.1 key.2
    refine ⟨h7, h8, ?_⟩
    rcases hlast q hq with ⟨a, h1, h2, h3, h4, h5⟩ | ⟨_, h2⟩
    · exact .inl (by rw [h5, ← h3, h7])
    · rw [h2]; exact h9
  · intro q hq hi
    by_cases e : q = p
    · subst e
      rw [eS] at hi ⊢
      simp only at hi ⊢
      rcases k.tries with ⟨t1, _⟩ | ⟨t1, _⟩
      · exact .inr ⟨by omega, eG q⟩
      · rw [t1] at hi; simp at hi
    · rw [eP q e] at hi ⊢
      exact (h.load q hq hi).imp id fun ⟨g1, g2⟩ => ⟨g1, eG q⟩
  · intro q hq hl
    obtain ⟨e, hl'⟩ := eLk q hl
    have kq := h.look q hq hl'
    have hs : (E.procs q).seen ≠ E'.rootv := by rw [eroot]; have := kq.seen; omega
    have hn1 : (E.procs q).ph ≠ .idle := by rcases hl' with h | h <;> rw [h] <;> simp
    have hn2 : (E.procs q).ph ≠ .announce := by rcases hl' with h | h <;> rw [h] <;> simp
    have hlq := h.later q hq hn1 hn2
    refine ⟨?_, ?_, ?_, ?_, ?_, ?_, ?_, ?_⟩ <;> rw [eP q e]
    · rw [evers]; have := kq.seen; simp; omega
    · exact kq.qscan
    · exact kq.qswap
    · rw [eA, eL]; exact kq.todo
    · exact fun e => absurd e hs
    · exact fun e => absurd e hs
    · rw [eann, eA]; exact kq.ann0
    · rcases kq.tries with ⟨t1, t2⟩ | ⟨t1, t2, t3⟩
      · exact .inl ⟨t1, .inr (eG q)⟩
      · refine .inr ⟨t1, eG q, .inr ?_⟩
        unfold PS.Done
        rw [enow, eO]
        rcases t2 with t2 | t2
        · exact hdone q hq t2 hlq.1
        · exact hmem q hq (t2 p hp (.inr hb) hr.symm (by rw [hqs]; omega))
  · intro q hq hi
    unfold PS.Done
    rw [enow, eO]
    by_cases e : q = p
    · subst e
      rcases k.self hr.symm (by omega) with g | g
      · exact hdone q hq g hl.1
      · exact hmem q hq g
    · rw [eP q e] at hi
      exact hdone q hq (h.fin q hq hi) (h.later q hq (by rw [hi]; simp) (by rw [hi]; simp)).1
  · intro i hi q hq h0
    rw [eann] at h0
    unfold PS.ver
    rw [evers] at hi ⊢
    by_cases e : i < E.vers.length
    · rw [List.getD_eq_getElem?_getD, List.getElem?_append_left e, ← List.getD_eq_getElem?_getD]
      exact h.zero i e q hq h0
    · have : i = E.vers.length := by simp at hi; omega
      subst this
      simp
      rcases hlast q hq with ⟨a, h1, h2, h3, h4, h5⟩ | ⟨_, h2⟩
      · exact absurd (h3.symm.trans h0) (k.todo.ne a h1).1
      · rw [h2]; exact h.zero _ h.root q hq h0
  · rw [enow, ← hW]
    exact all_log

/-- Any step of one that is busy keeps the invariant; the log only grows. -/
theorem PInv.step_ (h : PInv n start E) (hp : p < n) (hb : (E.procs p).ph ≠ .idle) : PInv n start (E.step n p).1 ∧ ∃ t, (E.step n p).1.now.log = E.now.log ++ t := by
  unfold PS.step
  cases hph : (E.procs p).ph with
  | idle => exact absurd hph hb
  | announce => exact ⟨h.announce_ hp hph, [], by simp [PS.announce, PS.now, PS.ver]⟩
  | load => exact ⟨h.load_ hp hph, [], by simp [PS.load, PS.now, PS.ver]⟩
  | scan => exact ⟨h.scan_ hp hph, [], by simp [PS.scan, PS.now, PS.ver]⟩
  | swap =>
    by_cases hr : E.rootv = (E.procs p).seen
    · exact h.swap_yes hp hph hr
    · refine ⟨h.swap_no hp hph hr, [], ?_⟩
      unfold PS.swap PS.now PS.ver
      simp only
      rw [if_neg hr, List.getD_eq_getElem?_getD, List.getD_eq_getElem?_getD, List.getElem?_append_left h.root]
      simp
  | finish => exact ⟨h.finish_ hp hph, [], by simp [PS.finish, PS.now, PS.ver]⟩
end
end Go.Proofs.Ytjfenjnnpikkdaa
/- Layer 16 in plain Lean: copies as an object that its callers share. -/
namespace Go.Proofs.Ytjfenjnnpikkdaa
set_option linter.unusedVariables false
set_option maxRecDepth 100000
set_option linter.unusedSimpArgs false

theorem PS.step_ph (n : Nat) (E : PS) (p q : Nat) (hb : (E.procs p).ph ≠ .idle) : ((E.step n p).1.procs q).many = (E.procs q).many ∧ ((E.step n p).1.procs q).own = (E.procs q).own ∧ (E.step n p).1.asked = E.asked ∧
    (decide (((E.step n p).1.procs q).ph ≠ .idle) = (decide ((E.procs q).ph ≠ .idle) && !(decide (q = p) && (E.step n p).2.2))) := by
  unfold PS.step
  cases hph : (E.procs p).ph with
  | idle => exact absurd hph hb
  | announce =>
    by_cases e : q = p
    · subst e; simp [PS.announce, upd_same, hph]
    · simp [PS.announce, upd_ne _ _ e, e]
  | load =>
    by_cases e : q = p
    · subst e; simp [PS.load, upd_same, hph]
    · simp [PS.load, upd_ne _ _ e, e]
  | scan =>
    by_cases e : q = p
    · subst e; simp [PS.scan, upd_same, hph]; split <;> simp
    · simp [PS.scan, upd_ne _ _ e, e]
  | swap =>
    by_cases e : q = p
    · subst e; simp [PS.swap, upd_same, hph]; split <;> simp
    · simp [PS.swap, upd_ne _ _ e, e]
  | finish =>
    by_cases e : q = p
    · subst e; simp [PS.finish, upd_same, hph]
    · simp [PS.finish, upd_ne _ _ e, e]

def psLin (n : Nat) (start : St) : Lin PS where
  n := n
  start := start
  Inv := PInv n start
  busy E p := decide ((E.procs p).ph ≠ .idle)
  many E p := (E.procs p).many
  cur E p := (E.ask (E.procs p).own).op
  log E := E.now.log
  invoke E p o := E.invoke p o
  step E p := E.step n p
  inv_invoke E p o h hp hb _ := h.invoke hp (by simpa using hb) o
  busy_invoke E p o h hp hb q := by
    by_cases e : q = p
    · subst e; simp [PS.invoke, upd_same]
    · simp [PS.invoke, upd_ne _ _ e, e]
  many_invoke E p o h hp hb q := by
    by_cases e : q = p
    · subst e; simp [PS.invoke, upd_same]
    · simp [PS.invoke, upd_ne _ _ e, e]
  cur_invoke E p o h hp hb q hqn hq := by
    by_cases e : q = p
    · subst e; simp [PS.invoke, upd_same, PS.ask]
    · rw [if_neg e]
      simp only [PS.invoke, upd_ne _ _ e]
      exact congrArg Asked.op (PS.ask_append _ (h.own q hqn).1)
  log_invoke E p o h hp hb := rfl
  inv_step E p h hp hb := (h.step_ hp (by simpa using hb)).1
  busy_step E p h hp hb q := (PS.step_ph n E p q (by simpa using hb)).2.2.2
  many_step E p h hp hb q := (PS.step_ph n E p q (by simpa using hb)).1
  cur_step E p h hp hb q hq := by
    obtain ⟨_, h1, h2, _⟩ := PS.step_ph n E p q (by simpa using hb)
    simp only [PS.ask, h1, h2]
  log_step E p h hp hb := (h.step_ hp (by simpa using hb)).2
  done_step E p h hp hb hd := by
    have hf : (E.procs p).ph = .finish := by
      unfold PS.step at hd
      cases hph : (E.procs p).ph <;> rw [hph] at hd <;> simp at hd
    have hdone : E.now.last p = (E.procs p).own := h.fin p hp hf
    have hl := h.later p hp (by rw [hf]; simp) (by rw [hf]; simp)
    obtain ⟨r, hr, h1, h2, h3, h4⟩ := h.now.last p hp (by rw [hdone]; exact hl.2.1)
    rw [hdone] at h2 h3
    have e : E.step n p = (E.finish p, E.now.resp p, true) := by unfold PS.step; rw [hf]
    rw [e]
    exact ⟨r, hr, h1, by rw [h2]; exact (h.own p hp).2.1, h3, h4⟩
  log_ok E h := h.now.log
  log_many E h p hp := by
    rw [h.now.count p hp]
    have ho := (h.own p hp).2.1
    by_cases c1 : (E.procs p).ph = .idle
    · have := (h.idle p hp c1).2
      unfold PS.Done at this
      rw [this, ho]; omega
    · by_cases c2 : (E.procs p).ph = .announce
      · obtain ⟨g1, g2, _⟩ := h.annc p hp c2
        rw [g1]; omega
      · rcases (h.later p hp c1 c2).2.2 with g | g
        · unfold PS.Done at g
          rw [g, ho]; omega
        · omega
  log_idle E h p hp hb := by
    have c1 : (E.procs p).ph = .idle := by simpa using hb
    have := (h.idle p hp c1).2
    unfold PS.Done at this
    rw [h.now.count p hp, this]
    exact (h.own p hp).2.1
  log_cur E h r hr hb hs := by
    obtain ⟨a, h0, h1, h2⟩ := h.now.recs r hr
    have hp := (h.askP a h0 h1)
    rw [h2] at hp
    simp only at hp
    have hne := h.own_ne hp.1 (by omega)
    have ho := h.own _ hp.1
    have e : a = (E.procs r.proc).own := h.askI a _ h0 hne h1 ho.1 (by rw [h2, ho.2.2 hne]) (by rw [h2, ho.2.1, ← hs])
    rw [← e, h2]
end Go.Proofs.Ytjfenjnnpikkdaa
/- Package psim: how its object lies in memory. -/
namespace Go.Proofs.Ytjfenjnnpikkdaa
set_option linter.unusedVariables false
set_option maxRecDepth 100000
set_option linter.unusedSimpArgs false
open Go.RowKit

/-- Whose a block is. -/
inductive Tag | eng | mach | proc (p : Nat) | imm
  deriving DecidableEq

structure PRef where
  bm : Nat
  vc : Value
  vs : Value
  steps : List Int
  vp : Value
  va : Value
  vv : Value
  pa : Nat → Nat
  pt : Nat → Value
  bef : Nat → Int
  ver : Nat → Nat
  own : Nat → Option Tag

abbrev ptrV (b : Nat) : Value := .pointer (some ⟨b, 0, none⟩)
def natI (l : List Nat) : List Int := l.map fun (a : Nat) => (a : Int)
def askedV (a : Asked) : List Value := [.int .i64 a.proc, .int .i64 a.many, .int .i64 a.op.code, .int .i64 a.op.a, .int .i64 a.op.b]
def recV (r : Rec) : List Value := [.int .i64 r.index, .int .i64 r.proc, .int .i64 r.seq, .int .i64 r.op.code, .int .i64 r.op.a, .int .i64 r.op.b, .int .i64 r.resp]
abbrev bound (f : FuncId) (b : Nat) : Value := .func (Fn.func f) #[ptrV b] #[]
def phV (b : Nat) : Ph → Value
  | .idle => .nilFunc
  | .announce => bound 51 b
  | .load => bound 70 b
  | .scan => bound 82 b
  | .swap => bound 90 b
  | .finish => bound 95 b
abbrev procV (be p : Nat) (x : Pr) (b : Int) (f vt : Value) : Array Value :=
  #[ptrV be, .int .i64 p, .int .i64 x.own, .int .i64 x.many, .int .i64 b, f, .int .i64 x.tries, .int .i64 x.q, .int .i64 x.seen, vt]
abbrev engV (R : PRef) (n : Nat) : Array Value := #[ptrV R.bm, .int .i64 0, .int .i64 n, R.vp, R.va, R.vv]
def cellsP (n : Nat) (E : PS) : List Int := ((List.range n).map fun p => (E.annv p : Int)) ++ [(E.rootv : Int)]
abbrev rangeI (n : Nat) (f : Nat → Int) : List Value := ints ((List.range n).map f)

theorem rd_keeps {F : Nat → Prop} {w w' : World} {v : Value} {xs : List Int} (h : Rd w v xs) (k : Keeps F w w') (hd : 0 < xs.length → ∀ b, v.ownBlock = some b → ¬ F b) : Rd w' v xs := by
  obtain ⟨a, c, rfl, h1, h2, h3⟩ := h
  refine ⟨a, c, rfl, h1, h2, fun hl => ?_⟩
  obtain ⟨b, o, e2, hlt, hc⟩ := h3 hl
  refine ⟨b, o, e2, Nat.lt_of_lt_of_le hlt k.size, fun i hi => k.cellSome (hd hl b ?_) (hc i hi)⟩
  rw [e2]
  rfl
theorem rd_block {w : World} {v : Value} {xs : List Int} (h : Rd w v xs) (h0 : 0 < xs.length) : ∀ k, v.ownBlock = some k → k < w.heap.size := by
  intro k hk
  obtain ⟨a, c, rfl, _, _, h3⟩ := h
  obtain ⟨b, o, rfl, hb, _⟩ := h3 h0
  simp [Value.ownBlock] at hk
  omega
/-- A copy in memory. -/
def VRep (w : World) (base : Nat) (own : Nat → Option Tag) (n b : Nat) (v : Ver) : Prop :=
  own b = some .imm ∧ ∃ vL vl vr vg, Blk w b #[.int .i64 v.st.kind, vL, .bool v.st.isSealed, .int .i64 v.st.to, vl, vr, vg] 84 ∧
    (Rd w vL v.st.L ∧ (0 < v.st.L.length → ∀ k, vL.ownBlock = some k → own k = some .imm ∨ k < base)) ∧
    (Own w 3 1 vl n (rangeI n fun q => (v.last q : Int)) ∧ ∀ k, vl.ownBlock = some k → own k = some .imm) ∧
    (Own w 3 1 vr n (rangeI n v.resp) ∧ ∀ k, vr.ownBlock = some k → own k = some .imm) ∧
    (Own w 39 7 vg v.log.length (v.log.flatMap recV) ∧ ∀ k, vg.ownBlock = some k → own k = some .imm)
theorem VRep.keeps {w w' : World} {base n b : Nat} {own own' : Nat → Option Tag} {v : Ver} {F : Nat → Prop} (h : VRep w base own n b v) (k : Keeps F w w') (hF : ∀ k, F k → own k ≠ some .imm ∧ base ≤ k) (ho : ∀ k, own k = some .imm → own' k = some .imm) : VRep w' base own' n b v := by
  obtain ⟨h0, vL, vl, vr, vg, h1, ⟨h2, h2'⟩, ⟨h3, h3'⟩, ⟨h4, h4'⟩, h5, h5'⟩ := h
  refine ⟨ho _ h0, vL, vl, vr, vg, h1.keeps k (fun hf => (hF _ hf).1 h0), ⟨rd_keeps h2 k ?_, fun h0 q hq => (h2' h0 q hq).imp (ho q) id⟩, ⟨own_keeps h3 k (fun q hq hf => (hF q hf).1 (h3' q hq)), fun q hq => ho q (h3' q hq)⟩,
    ⟨own_keeps h4 k (fun q hq hf => (hF q hf).1 (h4' q hq)), fun q hq => ho q (h4' q hq)⟩, own_keeps h5 k (fun q hq hf => (hF q hf).1 (h5' q hq)), fun q hq => ho q (h5' q hq)⟩
  intro h0 q hq hf
  rcases h2' h0 q hq with g | g
  · exact (hF q hf).1 g
  · have := (hF q hf).2; omega

/-- A process in memory. -/
structure XRep (w : World) (own : Nat → Option Tag) (be b p : Nat) (x : Pr) (bf : Int) (vt : Value) : Prop where
  tag : own b = some (.proc p)
  blk : Blk w b (procV be p x bf (phV b x.ph) vt) 81
  todo : Own w 3 1 vt x.todo.length (ints (natI x.todo))
  todoT : ∀ k, vt.ownBlock = some k → own k = some (.proc p)
theorem XRep.keeps {w w' : World} {be b p : Nat} {own own' : Nat → Option Tag} {x : Pr} {bf : Int} {vt : Value} {F : Nat → Prop} (h : XRep w own be b p x bf vt) (k : Keeps F w w') (hF : ∀ k, F k → own k ≠ some (.proc p)) (ho : ∀ k, own k = some (.proc p) → own' k = some (.proc p)) : XRep w' own' be b p x bf vt :=
  ⟨ho _ h.tag, h.blk.keeps k (fun hf => hF _ hf h.tag), own_keeps h.todo k (fun q hq hf => hF q hf (h.todoT q hq)), fun q hq => ho q (h.todoT q hq)⟩

structure PRep (w : World) (base be : Nat) (R : PRef) (n : Nat) (E : PS) : Prop where
  small : 0 < n ∧ n ≤ 64
  fresh : ∀ k, R.own k ≠ none → base ≤ k ∧ k < w.heap.size
  eng : Blk w be (engV R n) 76
  engT : R.own be = some .eng
  mach : Mach w R.bm R.vc R.vs ⟨cellsP n E, R.steps⟩
  machT : ∀ k, machF R.bm R.vc R.vs k → R.own k = some .mach
  procs : Own w 78 1 R.vp n ((List.range n).map fun p => ptrV (R.pa p))
  procsT : ∀ k, R.vp.ownBlock = some k → R.own k = some .eng
  proc : ∀ p, p < n → XRep w R.own be (R.pa p) p (E.procs p) (R.bef p) (R.pt p)
  asked : Own w 91 5 R.va E.asked.length (E.asked.flatMap askedV)
  askedT : ∀ k, R.va.ownBlock = some k → R.own k = some .eng
  vers : Own w 82 1 R.vv E.vers.length ((List.range E.vers.length).map fun i => ptrV (R.ver i))
  versT : ∀ k, R.vv.ownBlock = some k → R.own k = some .eng
  ver : ∀ i, i < E.vers.length → VRep w base R.own n (R.ver i) (E.ver i)

section
variable {w w' : World} {base be n p : Nat} {R : PRef} {E : PS}
/-- What touches none of its blocks leaves it as it is. -/
theorem PRep.keeps {F : Nat → Prop} (h : PRep w base be R n E) (k : Keeps F w w') (hF : ∀ k, F k → R.own k = none ∧ base ≤ k) : PRep w' base be R n E := by
  have hne : ∀ k, R.own k ≠ none → ¬ F k := fun k hk hf => hk (hF k hf).1
  have hs : ∀ {t : Tag} {k}, R.own k = some t → ¬ F k := fun hk => hne _ (by rw [hk]; simp)
  exact ⟨h.small, fun q hq => ⟨(h.fresh q hq).1, Nat.lt_of_lt_of_le (h.fresh q hq).2 k.size⟩, h.eng.keeps k (hs h.engT), h.engT, h.mach.keeps k (fun q hq => hs (h.machT q hq)), h.machT, own_keeps h.procs k (fun q hq => hs (h.procsT q hq)), h.procsT,
    fun q hq => (h.proc q hq).keeps k (fun j hj => by rw [(hF j hj).1]; simp) (fun _ e => e), own_keeps h.asked k (fun q hq => hs (h.askedT q hq)), h.askedT, own_keeps h.vers k (fun q hq => hs (h.versT q hq)), h.versT,
    fun i hi => (h.ver i hi).keeps k (fun j hj => ⟨by rw [(hF j hj).1]; simp, (hF j hj).2⟩) (fun _ e => e)⟩

/-- A step of a process: its own blocks and the machine are turned; a new row may be its. -/
theorem PRep.turn (h : PRep w base be R n E) (hp : p < n) {F : Nat → Prop} (k : Keeps F w w') (hF : ∀ k, F k → R.own k = some .mach ∨ R.own k = some (.proc p))
    (own' : Nat → Option Tag) (ho : ∀ k, k < w.heap.size → own' k = R.own k) (hn : ∀ k, w.heap.size ≤ k → own' k ≠ none → own' k = some (.proc p) ∧ k < w'.heap.size)
    (annv : Nat → Nat) (rootv : Nat) (steps : List Int) (hM : Mach w' R.bm R.vc R.vs ⟨cellsP n { E with annv := annv, rootv := rootv }, steps⟩)
    (x : Pr) (bf : Int) (vt : Value) (hX : XRep w' own' be (R.pa p) p x bf vt) :
    PRep w' base be { R with own := own', steps := steps, pt := upd R.pt p vt, bef := upd R.bef p bf } n { E with annv := annv, rootv := rootv, procs := upd E.procs p x } := by
  have hlt : ∀ {t : Tag} {k}, R.own k = some t → k < w.heap.size := fun hk => (h.fresh _ (by rw [hk]; simp)).2
  have hold : ∀ {t : Tag} {k}, R.own k = some t → own' k = some t := fun hk => (ho _ (hlt hk)).trans hk
  have hs : ∀ {t : Tag} {k}, t ≠ .mach → t ≠ .proc p → R.own k = some t → ¬ F k := fun h1 h2 hk hf => by
    rcases hF _ hf with e | e <;> rw [hk] at e <;> injection e with e
    · exact h1 e
    · exact h2 e
  have hbase := (h.fresh be (by rw [h.engT]; simp))
  refine ⟨h.small, ?_, h.eng.keeps k (hs (by simp) (by simp) h.engT), hold h.engT, hM, fun q hq => hold (h.machT q hq), own_keeps h.procs k (fun q hq => hs (by simp) (by simp) (h.procsT q hq)), fun q hq => hold (h.procsT q hq), ?_,
    own_keeps h.asked k (fun q hq => hs (by simp) (by simp) (h.askedT q hq)), fun q hq => hold (h.askedT q hq), own_keeps h.vers k (fun q hq => hs (by simp) (by simp) (h.versT q hq)), fun q hq => hold (h.versT q hq), ?_⟩
  · intro q hq
    simp only at hq
    by_cases c : q < w.heap.size
    · rw [ho q c] at hq
      exact ⟨(h.fresh q hq).1, Nat.lt_of_lt_of_le c k.size⟩
    · exact ⟨by omega, (hn q (by omega) hq).2⟩
  · intro q hq
    simp only
    by_cases e : q = p
    · subst e
      simp only [upd_same]
      exact hX
    · rw [upd_ne _ _ e, upd_ne _ _ e, upd_ne _ _ e]
      refine (h.proc q hq).keeps k (fun j hj => ?_) (fun j hj => hold hj)
      rcases hF j hj with c | c <;> rw [c] <;> simp
      exact fun e' => e e'.symm
  · intro i hi
    refine (h.ver i hi).keeps k (fun j hj => ?_) (fun j hj => hold hj)
    have hj' := hF j hj
    refine ⟨by rcases hj' with c | c <;> rw [c] <;> simp, ?_⟩
    exact (h.fresh j (by rcases hj' with c | c <;> rw [c] <;> simp)).1
end

/-- What a method leaves. -/
def PPost (w : World) (base be : Nat) (R : PRef) (n : Nat) (E' : PS) (v : Value) (e : Ending) (w' : World) : Prop :=
  e = .returned v ∧ ∃ R', PRep w' base be R' n E' ∧ (∀ k, k < w.heap.size → R'.own k = R.own k) ∧ Keeps (fun k => R.own k ≠ none) w w'
end Go.Proofs.Ytjfenjnnpikkdaa
/- Package psim: what its methods leave, in general; its cells. -/
namespace Go.Proofs.Ytjfenjnnpikkdaa
set_option linter.unusedVariables false
set_option maxRecDepth 100000
set_option linter.unusedSimpArgs false
open Go.RowKit

theorem own_set {w : World} {e T : TypeId} {s n b : Nat} {v : Value} {xs : List Value} {cs : Array Value} (h : Own w e s v n xs) (hB : Blk w b cs T) (hne : e ≠ T) (i : Nat) (x : Value) : Own (w.setCell ⟨b, i, none⟩ x) e s v n xs :=
  own_keeps h (Keeps.one w ⟨b, i, none⟩ x) (fun q hq hf => own_blk_ne h hB hne (by rw [hq]; exact congrArg some hf))
theorem own_drew {w : World} {e : TypeId} {s n : Nat} {v : Value} {xs : List Value} (h : Own w e s v n xs) : Own w.drew e s v n xs := h
section
variable {w w' : World} {base be n p : Nat} {R : PRef} {E : PS}

theorem cellsP_len (n : Nat) (E : PS) : (cellsP n E).length = n + 1 := by simp [cellsP]
theorem cellsP_ann {q : Nat} (hq : q < n) (s : List Int) : (⟨cellsP n E, s⟩ : MS).get (q : Int) = E.annv q := by
  have hh : (⟨cellsP n E, s⟩ : MS).has (q : Int) := ⟨by omega, by simp only [cellsP_len]; omega⟩
  unfold MS.get
  rw [if_pos hh]
  simp only [Int.toNat_natCast, cellsP, List.getD_eq_getElem?_getD]
  rw [List.getElem?_append_left (by simpa using hq)]
  simp [hq]
theorem cellsP_root (s : List Int) : (⟨cellsP n E, s⟩ : MS).get (n : Int) = E.rootv := by
  have hh : (⟨cellsP n E, s⟩ : MS).has (n : Int) := ⟨by omega, by simp only [cellsP_len]; omega⟩
  unfold MS.get
  rw [if_pos hh]
  simp only [Int.toNat_natCast, cellsP, List.getD_eq_getElem?_getD]
  rw [List.getElem?_append_right (by simp)]
  simp
theorem step_cellsP (l : List Int) (s : List Int) (p : Int) : ∃ s', (⟨l, s⟩ : MS).step p = ⟨l, s'⟩ := by
  unfold MS.step
  split
  · exact ⟨_, rfl⟩
  · exact ⟨s, rfl⟩
theorem cellsP_put {q : Nat} (hq : q < n) (s : List Int) (p : Int) (a : Nat) : ∃ s', ((⟨cellsP n E, s⟩ : MS).step p).put (q : Int) (a : Int) = ⟨cellsP n { E with annv := upd E.annv q a }, s'⟩ := by
  obtain ⟨s', hs⟩ := step_cellsP (cellsP n E) s p
  rw [hs]
  refine ⟨s', ?_⟩
  have hh : (⟨cellsP n E, s'⟩ : MS).has (q : Int) := ⟨by omega, by simp only [cellsP_len]; omega⟩
  unfold MS.put
  rw [if_pos hh]
  simp only [Int.toNat_natCast, cellsP]
  congr 1
  apply List.ext_getElem?
  intro i
  rw [List.getElem?_set]
  by_cases e : q = i
  · subst e
    have : q < n + 1 := by omega
    simp [hq, this, upd_same]
  · rw [if_neg e]
    by_cases hi : i < n
    · rw [List.getElem?_append_left (by simpa using hi), List.getElem?_append_left (by simpa using hi)]
      simp [hi, upd_ne E.annv (a : Nat) (fun e' => e e'.symm)]
    · rw [List.getElem?_append_right (by simpa using hi), List.getElem?_append_right (by simpa using hi)]
      simp
theorem cellsP_swap (s : List Int) (p : Int) (a b : Nat) : ∃ s', (⟨cellsP n E, s⟩ : MS).swap p (n : Int) (a : Int) (b : Int) = ⟨cellsP n { E with rootv := if E.rootv = a then b else E.rootv }, s'⟩ := by
  have hh : ∀ s, (⟨cellsP n E, s⟩ : MS).has (n : Int) := fun s => ⟨by omega, by simp only [cellsP_len]; omega⟩
  obtain ⟨s', hs⟩ := step_cellsP (cellsP n E) s p
  unfold MS.swap
  rw [hs, cellsP_root]
  refine ⟨s', ?_⟩
  by_cases c : E.rootv = a
  · rw [if_pos ⟨hh s, by rw [c]⟩, if_pos c]
    unfold MS.put
    rw [if_pos (hh s')]
    simp only [Int.toNat_natCast, cellsP]
    congr 1
    rw [List.set_append_right _ _ (by simp)]
    simp
  · rw [if_neg (fun h => c (by have := h.2; omega)), if_neg c]

section
variable {bm : Nat} {vc vs : Value} {s : List Int}
theorem rd_root (h : Mach w bm vc vs ⟨cellsP n E, s⟩) (p : Int) : Calls Try.prog 62 #[.pointer (some ⟨bm, 0, none⟩), .int .i64 p, .int .i64 (n : Nat)] w fun e w' =>
    e = .returned (.int .i64 E.rootv) ∧ (∃ s', Mach w' bm vc vs ⟨cellsP n E, s'⟩) ∧ Keeps (machF bm vc vs) w w' := by
  refine (mach_read h p n).mono ?_
  rintro e w' ⟨rfl, hM, hK⟩
  obtain ⟨s', hs⟩ := step_cellsP (cellsP n E) s p
  rw [hs] at hM
  exact ⟨by rw [cellsP_root], ⟨s', hM⟩, hK⟩
theorem rd_ann {q : Nat} (hq : q < n) (h : Mach w bm vc vs ⟨cellsP n E, s⟩) (p : Int) : Calls Try.prog 62 #[.pointer (some ⟨bm, 0, none⟩), .int .i64 p, .int .i64 q] w fun e w' =>
    e = .returned (.int .i64 (E.annv q)) ∧ (∃ s', Mach w' bm vc vs ⟨cellsP n E, s'⟩) ∧ Keeps (machF bm vc vs) w w' := by
  refine (mach_read h p q).mono ?_
  rintro e w' ⟨rfl, hM, hK⟩
  obtain ⟨s', hs⟩ := step_cellsP (cellsP n E) s p
  rw [hs] at hM
  exact ⟨by rw [cellsP_ann hq], ⟨s', hM⟩, hK⟩
theorem wr_ann {q : Nat} (hq : q < n) (h : Mach w bm vc vs ⟨cellsP n E, s⟩) (p : Int) (a : Nat) : Calls Try.prog 53 #[.pointer (some ⟨bm, 0, none⟩), .int .i64 p, .int .i64 q, .int .i64 a] w fun e w' =>
    e = .returned (.tuple #[]) ∧ (∃ s', Mach w' bm vc vs ⟨cellsP n { E with annv := upd E.annv q a }, s'⟩) ∧ Keeps (machF bm vc vs) w w' := by
  refine (mach_write h p q a).mono ?_
  rintro e w' ⟨rfl, hM, hK⟩
  obtain ⟨s', hs⟩ := cellsP_put (E := E) hq s p a
  rw [hs] at hM
  exact ⟨rfl, ⟨s', hM⟩, hK⟩
/-- What a swap of the root leaves. -/
def SwapR (w : World) (bm : Nat) (vc vs : Value) (n : Nat) (E : PS) (r : Nat) (e : Ending) (w' : World) : Prop :=
  (∃ b, e = .returned (.bool b)) ∧ (∃ s', Mach w' bm vc vs ⟨cellsP n { E with rootv := r }, s'⟩) ∧ Keeps (machF bm vc vs) w w'
theorem sw_root (h : Mach w bm vc vs ⟨cellsP n E, s⟩) (p : Int) (a b : Nat) : Calls Try.prog 94 #[.pointer (some ⟨bm, 0, none⟩), .int .i64 p, .int .i64 (n : Nat), .int .i64 a, .int .i64 b] w
    (SwapR w bm vc vs n E (if E.rootv = a then b else E.rootv)) := by
  refine (mach_swap h p n a b).mono ?_
  rintro e w' ⟨rfl, hM, hK⟩
  obtain ⟨s', hs⟩ := cellsP_swap (n := n) (E := E) s p a b
  rw [hs] at hM
  exact ⟨⟨_, rfl⟩, ⟨s', hM⟩, hK⟩
end

theorem PRep.nP (h : PRep w base be R n E) (hp : p < n) : ¬ machF R.bm R.vc R.vs (R.pa p) := fun hf => by
  have := h.machT _ hf
  rw [(h.proc p hp).tag] at this
  simp at this
theorem PRep.nE (h : PRep w base be R n E) : ¬ machF R.bm R.vc R.vs be := fun hf => by
  have := h.machT _ hf
  rw [h.engT] at this
  simp at this
theorem PRep.bne (h : PRep w base be R n E) (hp : p < n) : be ≠ R.pa p := fun e => by
  have := h.engT
  rw [e, (h.proc p hp).tag] at this
  simp at this
/-- What a walk reads of a copy's last row. -/
theorem PRep.viewLast (h : PRep w base be R n E) {i q : Nat} (hi : i < E.vers.length) (hq : q < n) : ∃ gv cv gl cl, R.vv = .slice (some ⟨gv, 0, none⟩) E.vers.length cv ∧ w.cell? ⟨gv, i, none⟩ = some (.pointer (some ⟨R.ver i, 0, none⟩)) ∧
    w.cell? ⟨R.ver i, 4, none⟩ = some (.slice (some ⟨gl, 0, none⟩) n cl) ∧ w.cell? ⟨gl, q, none⟩ = some (.int .i64 ((E.ver i).last q)) ∧ R.own gv = some .eng ∧ R.own (R.ver i) = some .imm ∧ R.own gl = some .imm := by
  obtain ⟨gv, cv, e, _⟩ := own_open h.vers (by omega)
  obtain ⟨t0, vL, vl, vr, vg, hb, _, ⟨hl, tl⟩, _⟩ := h.ver i hi
  obtain ⟨gl, cl, rfl, _⟩ := own_open hl (by omega)
  have hv := h.vers
  have tv := h.versT
  rw [e] at hv tv
  refine ⟨gv, cv, gl, cl, e, ?_, hb.cell 4, ?_, tv _ rfl, t0, tl _ rfl⟩
  · rw [World.ownsRow.cellAt hv i (by omega)]; simp [hi]
  · rw [World.ownsRow.cellAt hl q (by omega), ints_get _ _ (by simpa using hq)]; simp [hq]
theorem PRep.viewResp (h : PRep w base be R n E) {i q : Nat} (hi : i < E.vers.length) (hq : q < n) : ∃ gv cv gl cl, R.vv = .slice (some ⟨gv, 0, none⟩) E.vers.length cv ∧ w.cell? ⟨gv, i, none⟩ = some (.pointer (some ⟨R.ver i, 0, none⟩)) ∧
    w.cell? ⟨R.ver i, 5, none⟩ = some (.slice (some ⟨gl, 0, none⟩) n cl) ∧ w.cell? ⟨gl, q, none⟩ = some (.int .i64 ((E.ver i).resp q)) ∧ R.own gv = some .eng ∧ R.own (R.ver i) = some .imm ∧ R.own gl = some .imm := by
  obtain ⟨gv, cv, e, _⟩ := own_open h.vers (by omega)
  obtain ⟨t0, vL, vl, vr, vg, hb, _, _, ⟨hl, tl⟩, _⟩ := h.ver i hi
  obtain ⟨gl, cl, rfl, _⟩ := own_open hl (by omega)
  have hv := h.vers
  have tv := h.versT
  rw [e] at hv tv
  refine ⟨gv, cv, gl, cl, e, ?_, hb.cell 5, ?_, tv _ rfl, t0, tl _ rfl⟩
  · rw [World.ownsRow.cellAt hv i (by omega)]; simp [hi]
  · rw [World.ownsRow.cellAt hl q (by omega), ints_get _ _ (by simpa using hq)]; simp [hq]
theorem PRep.nTag (h : PRep w base be R n E) {k : Nat} {t : Tag} (hk : R.own k = some t) (ht : t ≠ .mach) : ¬ machF R.bm R.vc R.vs k := fun hf => by
  have := h.machT _ hf
  rw [hk] at this
  injection this with this
  exact ht this
/-- The blocks that a step of process p turns, its row apart. -/
def turnF (R : PRef) (p : Nat) (k : Nat) : Prop := machF R.bm R.vc R.vs k ∨ k = R.pa p
theorem PRep.turnT (h : PRep w base be R n E) (hp : p < n) : ∀ k, turnF R p k → R.own k = some .mach ∨ R.own k = some (.proc p) := by
  rintro k (hk | rfl)
  · exact .inl (h.machT k hk)
  · exact .inr (h.proc p hp).tag
theorem keeps_own {F : Nat → Prop} (k : Keeps F w w') (hF : ∀ k, F k → R.own k = some .mach ∨ R.own k = some (.proc p)) : Keeps (fun k => R.own k ≠ none) w w' :=
  k.mono fun j hj => by rcases hF j hj with c | c <;> rw [c] <;> simp
/-- A method without a new row. -/
theorem PRep.fin (h : PRep w base be R n E) (hp : p < n) (k : Keeps (turnF R p) w w') {annv : Nat → Nat} {rootv : Nat} {steps : List Int} (hM : Mach w' R.bm R.vc R.vs ⟨cellsP n { E with annv := annv, rootv := rootv }, steps⟩)
    {x : Pr} (ht : x.todo = (E.procs p).todo) (hB : Blk w' (R.pa p) (procV be p x (R.bef p) (phV (R.pa p) x.ph) (R.pt p)) 81) (v : Value) :
    PPost w base be R n { E with annv := annv, rootv := rootv, procs := upd E.procs p x } v (.returned v) w' := by
  have hT := h.turnT hp
  have hx := h.proc p hp
  refine ⟨rfl, _, h.turn hp k hT R.own (fun _ _ => rfl) (fun q hq hn => ?_) annv rootv steps hM x (R.bef p) (R.pt p) ⟨hx.tag, hB, ?_, hx.todoT⟩, fun _ _ => rfl, keeps_own k hT⟩
  · have := (h.fresh q hn).2; omega
  · rw [ht]
    refine own_keeps hx.todo k fun q hq hf => ?_
    rcases hf with hf | hf
    · have := h.machT q hf; rw [hx.todoT q hq] at this; simp at this
    · subst hf; exact own_blk_ne hx.todo hx.blk (by decide) hq
/-- A method that makes the process's row anew. -/
theorem PRep.fin_row (h : PRep w base be R n E) (hp : p < n) {F : Nat → Prop} (k : Keeps F w w') (hF : ∀ k, F k → turnF R p k ∨ (R.pt p).ownBlock = some k) {annv : Nat → Nat} {rootv : Nat} {steps : List Int} (hM : Mach w' R.bm R.vc R.vs ⟨cellsP n { E with annv := annv, rootv := rootv }, steps⟩)
    {x : Pr} {vt : Value} (hB : Blk w' (R.pa p) (procV be p x (R.bef p) (phV (R.pa p) x.ph) vt) 81) (ht : Own w' 3 1 vt x.todo.length (ints (natI x.todo)))
    (hvt : ∀ q, vt.ownBlock = some q → (R.pt p).ownBlock = some q ∨ w.heap.size ≤ q) (v : Value) :
    PPost w base be R n { E with annv := annv, rootv := rootv, procs := upd E.procs p x } v (.returned v) w' := by
  have hx := h.proc p hp
  have hT : ∀ k, F k → R.own k = some .mach ∨ R.own k = some (.proc p) := fun q hq => by
    rcases hF q hq with g | g
    · exact h.turnT hp q g
    · exact .inr (hx.todoT q g)
  have ho : ∀ q, q < w.heap.size → (fun q => if q < w.heap.size then R.own q else if vt.ownBlock = some q then some (Tag.proc p) else none) q = R.own q := fun q hq => by simp only; rw [if_pos hq]
  have hold : ∀ {t : Tag} {k}, R.own k = some t → (fun q => if q < w.heap.size then R.own q else if vt.ownBlock = some q then some (Tag.proc p) else none) k = some t := fun {t k} hk => by
    rw [ho k (h.fresh k (by rw [hk]; simp)).2, hk]
  refine ⟨rfl, _, h.turn hp k hT (fun q => if q < w.heap.size then R.own q else if vt.ownBlock = some q then some (.proc p) else none) ho (fun q hq hn => ?_) annv rootv steps hM x (R.bef p) vt ⟨hold hx.tag, hB, ht, fun q hq => ?_⟩, ho, keeps_own k hT⟩
  · try simp only at hn ⊢
    rw [if_neg (by omega)] at hn ⊢
    by_cases c : vt.ownBlock = some q
    · exact ⟨if_pos c, own_lt ht c⟩
    · rw [if_neg c] at hn; simp at hn
  · try simp only
    rcases hvt q hq with g | g
    · have := hx.todoT q g
      exact hold this
    · rw [if_neg (by omega), if_pos hq]
end
end Go.Proofs.Ytjfenjnnpikkdaa
/- Histories of shared objects in plain Lean: what a script leaves, for any engine. -/
namespace Go.Proofs.Ytjfenjnnpikkdaa
set_option linter.unusedVariables false
set_option maxRecDepth 100000
set_option linter.unusedSimpArgs false

/-- An operation of a history. -/
structure CallR where
  p : Nat
  seq : Nat
  frm : Nat
  to : Int
  resp : Int
  op : Op3
/-- An entry of a script. -/
structure EvR where
  kind : Int
  p : Int
  op : Op3
structure RunS (σ : Type) where
  E : σ
  calls : List CallR
  opn : Nat → Nat

def noCall : CallR := ⟨0, 0, 0, 0, 0, ⟨0, 0, 0⟩⟩
def RunS.cat {σ : Type} (R : RunS σ) (j : Nat) : CallR := R.calls.getD j noCall

section
variable {σ : Type} (L : Lin σ)
def codeI (E : σ) (p : Int) (o : Op3) : Int := if 0 ≤ p ∧ p < L.n ∧ fitsB o = true then (if L.busy E p.toNat = true then 14 else 0) else 1
def invI (E : σ) (p : Int) (o : Op3) : σ := if codeI L E p o = 0 then L.invoke E p.toNat o else E
def stpI (E : σ) (p : Int) : σ × Int × Bool := if 0 ≤ p ∧ p < L.n ∧ L.busy E p.toNat = true then L.step E p.toNat else (E, 0, false)
def evG (E : σ) (e : EvR) : σ := if e.kind = 0 then invI L E e.p e.op else if e.kind = 1 then (stpI L E e.p).1 else E
def RunS.begun (R : RunS σ) (p : Nat) (o : Op3) (i : Nat) : RunS σ := { E := L.invoke R.E p o, calls := R.calls ++ [⟨p, L.many R.E p + 1, i, -1, 0, o⟩], opn := upd R.opn p R.calls.length }
def RunS.ended (R : RunS σ) (p : Nat) (i : Nat) (E' : σ) (n : Int) : RunS σ := { R with E := E', calls := R.calls.set (R.opn p) { R.cat (R.opn p) with to := i, resp := n } }
def evS (R : RunS σ) (i : Nat) (e : EvR) : RunS σ :=
  if 0 ≤ e.p ∧ e.p < L.n then
    if e.kind = 0 then (if codeI L R.E e.p e.op = 0 then R.begun L e.p.toNat e.op i else R)
    else if e.kind = 1 then (if (stpI L R.E e.p).2.2 = true then R.ended e.p.toNat i (stpI L R.E e.p).1 (stpI L R.E e.p).2.1 else { R with E := (stpI L R.E e.p).1 })
    else R
  else R
def runS (f : Nat → EvR) (R : RunS σ) : Nat → RunS σ
  | 0 => R
  | k + 1 => evS L (runS f R k) k (f k)
def runG (f : Nat → EvR) (E : σ) : Nat → σ
  | 0 => E
  | k + 1 => evG L (runG f E k) (f k)

theorem codeI_zero (E : σ) (p : Int) (o : Op3) : codeI L E p o = 0 ↔ 0 ≤ p ∧ p < L.n ∧ fitsB o = true ∧ L.busy E p.toNat = false := by
  unfold codeI
  by_cases h : 0 ≤ p ∧ p < L.n ∧ fitsB o = true
  · rw [if_pos h]
    by_cases hb : L.busy E p.toNat = true
    · simp [hb]
    · simp [hb, h]
  · rw [if_neg h]
    simp only [Int.one_ne_zero, false_iff]
    exact fun g => h ⟨g.1, g.2.1, g.2.2.1⟩
theorem stpI_pos (E : σ) (p : Int) (h : 0 ≤ p ∧ p < L.n ∧ L.busy E p.toNat = true) : stpI L E p = L.step E p.toNat := if_pos h
theorem stpI_neg (E : σ) (p : Int) (h : ¬ (0 ≤ p ∧ p < L.n ∧ L.busy E p.toNat = true)) : stpI L E p = (E, 0, false) := if_neg h
theorem evS_E (R : RunS σ) (i : Nat) (e : EvR) : (evS L R i e).E = evG L R.E e := by
  unfold evS evG invI
  by_cases hp : 0 ≤ e.p ∧ e.p < L.n
  · rw [if_pos hp]
    by_cases h0 : e.kind = 0
    · rw [if_pos h0, if_pos h0]
      by_cases hc : codeI L R.E e.p e.op = 0
      · rw [if_pos hc, if_pos hc]; rfl
      · rw [if_neg hc, if_neg hc]
    · rw [if_neg h0, if_neg h0]
      by_cases h1 : e.kind = 1
      · rw [if_pos h1, if_pos h1]
        by_cases hd : (stpI L R.E e.p).2.2 = true
        · rw [if_pos hd]; rfl
        · rw [if_neg hd]
      · rw [if_neg h1, if_neg h1]
  · rw [if_neg hp]
    by_cases h0 : e.kind = 0
    · rw [if_pos h0, if_neg (fun h => hp ⟨((codeI_zero L _ _ _).1 h).1, ((codeI_zero L _ _ _).1 h).2.1⟩)]
    · rw [if_neg h0]
      by_cases h1 : e.kind = 1
      · rw [if_pos h1, stpI_neg L _ _ (fun h => hp ⟨h.1, h.2.1⟩)]
      · rw [if_neg h1]
theorem runS_E (f : Nat → EvR) (R : RunS σ) : ∀ k, (runS L f R k).E = runG L f R.E k := by
  intro k
  induction k with
  | zero => rfl
  | succ k ih => unfold runS runG; rw [evS_E, ih]

variable {L}
theorem Lin.inv_ev (L : Lin σ) {E : σ} (h : L.Inv E) (e : EvR) : L.Inv (evG L E e) := by
  unfold evG invI
  split
  · split
    · rename_i hc
      have hc := (codeI_zero L _ _ _).1 hc
      exact L.inv_invoke E _ _ h (by omega) hc.2.2.2 hc.2.2.1
    · exact h
  · split
    · by_cases hp : 0 ≤ e.p ∧ e.p < L.n ∧ L.busy E e.p.toNat = true
      · rw [stpI_pos L _ _ hp]; exact L.inv_step E _ h (by omega) hp.2.2
      · rw [stpI_neg L _ _ hp]; exact h
    · exact h
theorem Lin.inv_run (L : Lin σ) (f : Nat → EvR) {E : σ} (h : L.Inv E) : ∀ k, L.Inv (runG L f E k) := by
  intro k
  induction k with
  | zero => exact h
  | succ k ih => exact L.inv_ev ih _
/-- The log only grows. -/
theorem Lin.log_ev (L : Lin σ) {E : σ} (h : L.Inv E) (e : EvR) : ∃ m, L.log (evG L E e) = L.log E ++ m := by
  unfold evG invI
  split
  · split
    · rename_i hc
      have hc := (codeI_zero L _ _ _).1 hc
      exact ⟨[], by rw [L.log_invoke E _ _ h (by omega) hc.2.2.2]; simp⟩
    · exact ⟨[], by simp⟩
  · split
    · by_cases hp : 0 ≤ e.p ∧ e.p < L.n ∧ L.busy E e.p.toNat = true
      · rw [stpI_pos L _ _ hp]; exact L.log_step E _ h (by omega) hp.2.2
      · rw [stpI_neg L _ _ hp]; exact ⟨[], by simp⟩
    · exact ⟨[], by simp⟩
theorem Lin.log_run (L : Lin σ) (f : Nat → EvR) {E : σ} (h : L.Inv E) {j : Nat} : ∀ k, j ≤ k → ∃ m, L.log (runG L f E k) = L.log (runG L f E j) ++ m := by
  intro k
  induction k with
  | zero => intro hj; have : j = 0 := by omega
            subst this; exact ⟨[], by simp⟩
  | succ k ih =>
    intro hj
    by_cases e : j = k + 1
    · subst e; exact ⟨[], by simp⟩
    · obtain ⟨m, hm⟩ := ih (by omega)
      obtain ⟨m', hm'⟩ := L.log_ev (L.inv_run f h k) (f k)
      exact ⟨m ++ m', by show L.log (evG L _ _) = _; rw [hm', hm]; simp⟩

/-- What holds of a history. -/
structure RInv (L : Lin σ) (i : Nat) (R : RunS σ) : Prop where
  inv : L.Inv R.E
  frm : ∀ j, j < R.calls.length → (R.cat j).p < L.n ∧ 1 ≤ (R.cat j).seq ∧ (R.cat j).seq ≤ L.many R.E (R.cat j).p ∧ (R.cat j).frm < i ∧ (R.cat j).to < i
  one : ∀ j k, j < R.calls.length → k < R.calls.length → (R.cat j).p = (R.cat k).p → (R.cat j).seq = (R.cat k).seq → j = k
  all : ∀ p m, p < L.n → 1 ≤ m → m ≤ L.many R.E p → ∃ j, j < R.calls.length ∧ (R.cat j).p = p ∧ (R.cat j).seq = m
  opn : ∀ p, p < L.n → L.busy R.E p = true → R.opn p < R.calls.length ∧ (R.cat (R.opn p)).p = p ∧ (R.cat (R.opn p)).seq = L.many R.E p ∧ (R.cat (R.opn p)).op = L.cur R.E p ∧ (R.cat (R.opn p)).to = -1
  und : ∀ j, j < R.calls.length → (R.cat j).to < 0 → L.busy R.E (R.cat j).p = true ∧ (R.cat j).seq = L.many R.E (R.cat j).p
  don : ∀ j, j < R.calls.length → 0 ≤ (R.cat j).to → ∃ r ∈ L.log R.E, r.proc = (R.cat j).p ∧ r.seq = (R.cat j).seq ∧ r.op = (R.cat j).op ∧ r.resp = (R.cat j).resp
  ord : ∀ j k, j < R.calls.length → k < R.calls.length → 0 ≤ (R.cat j).to → (R.cat j).to < (R.cat k).frm → ∀ (x : Nat) (r : Rec), (L.log R.E)[x]? = some r → r.proc = (R.cat k).p → r.seq = (R.cat k).seq → ∃ (y : Nat) (q : Rec), y < x ∧ (L.log R.E)[y]? = some q ∧ q.proc = (R.cat j).p ∧ q.seq = (R.cat j).seq

theorem cat_append {σ : Type} {R : RunS σ} {E : σ} {o : Nat → Nat} {c : CallR} {j : Nat} (h : j < R.calls.length) : (RunS.mk E (R.calls ++ [c]) o).cat j = R.cat j := by
  simp [RunS.cat, List.getD_eq_getElem?_getD, List.getElem?_append_left h]
theorem cat_new {σ : Type} {R : RunS σ} {E : σ} {o : Nat → Nat} {c : CallR} : (RunS.mk E (R.calls ++ [c]) o).cat R.calls.length = c := by
  simp [RunS.cat, List.getD_eq_getElem?_getD]
theorem cat_set {σ : Type} {R : RunS σ} {E : σ} {o : Nat → Nat} {c : CallR} {k j : Nat} (hk : k < R.calls.length) : (RunS.mk E (R.calls.set k c) o).cat j = if j = k then c else R.cat j := by
  simp only [RunS.cat, List.getD_eq_getElem?_getD, List.getElem?_set]
  by_cases e : k = j
  · subst e; simp [hk]
  · rw [if_neg e, if_neg (fun h => e h.symm)]

theorem RInv.start (L : Lin σ) {E : σ} (h : L.Inv E) (hm : ∀ p, p < L.n → L.many E p = 0) (hb : ∀ p, p < L.n → L.busy E p = false) : RInv L 0 ⟨E, [], fun _ => 0⟩ := by
  refine ⟨h, fun j hj => by simp at hj, fun j k hj => by simp at hj, fun p m hp h1 h2 => ?_, fun p hp hb' => ?_, fun j hj => by simp at hj, fun j hj => by simp at hj, fun j k hj => by simp at hj⟩
  · have := hm p hp; simp only at h2; omega
  · rw [hb p hp] at hb'; simp at hb'
theorem RInv.mono {i k : Nat} {R : RunS σ} (h : RInv L i R) (hk : i ≤ k) : RInv L k R :=
  ⟨h.inv, fun j hj => by obtain ⟨h1, h2, h3, h4, h5⟩ := h.frm j hj; exact ⟨h1, h2, h3, by omega, by omega⟩, h.one, h.all, h.opn, h.und, h.don, h.ord⟩

/-- A step that answers nothing yet. -/
theorem RInv.go {i p : Nat} {R : RunS σ} (h : RInv L i R) (hp : p < L.n) (hb : L.busy R.E p = true) (hd : (L.step R.E p).2.2 = false) : RInv L i { R with E := (L.step R.E p).1 } := by
  have hbq : ∀ q, L.busy (L.step R.E p).1 q = L.busy R.E q := fun q => by rw [L.busy_step _ p h.inv hp hb q, hd]; simp
  have hm := L.many_step _ p h.inv hp hb
  obtain ⟨m, hlog⟩ := L.log_step _ p h.inv hp hb
  refine ⟨L.inv_step _ p h.inv hp hb, fun j hj => ?_, h.one, fun q k hq h1 h2 => h.all q k hq h1 (by simpa [hm] using h2), fun q hq hbb => ?_, fun j hj ht => ?_, fun j hj ht => ?_, fun j k hj hk h0 h1 x r hx hr1 hr2 => ?_⟩
  · show _ ∧ _ ∧ _ ≤ L.many (L.step R.E p).1 _ ∧ _; rw [hm]; exact h.frm j hj
  · simp only at hbb ⊢
    have g := h.opn q hq (by rw [← hbq]; exact hbb)
    rw [hm, L.cur_step _ p h.inv hp hb q hbb]
    exact g
  · simp only at ht ⊢; rw [hbq, hm]; exact h.und j hj ht
  · obtain ⟨r, hr, g⟩ := h.don j hj ht
    exact ⟨r, by simp only; rw [hlog]; exact List.mem_append_left _ hr, g⟩
  · simp only at hx ⊢
    rw [hlog] at hx ⊢
    by_cases hxl : x < (L.log R.E).length
    · rw [List.getElem?_append_left hxl] at hx
      obtain ⟨y, q, hy, g, g'⟩ := h.ord j k hj hk h0 h1 x r hx hr1 hr2
      exact ⟨y, q, hy, by rw [List.getElem?_append_left (by omega)]; exact g, g'⟩
    · obtain ⟨q, hq, g1, g2, _⟩ := h.don j hj h0
      obtain ⟨y, hy⟩ := List.getElem?_of_mem hq
      have hyl := (List.getElem?_eq_some_iff.1 hy).1
      exact ⟨y, q, by omega, by rw [List.getElem?_append_left hyl]; exact hy, g1, g2⟩
/-- What is answered. -/
theorem RInv.fin {i p : Nat} {R : RunS σ} (h : RInv L i R) (hp : p < L.n) (hb : L.busy R.E p = true) (hd : (L.step R.E p).2.2 = true) : RInv L (i + 1) (R.ended p i (L.step R.E p).1 (L.step R.E p).2.1) := by
  have hbq : ∀ q, L.busy (L.step R.E p).1 q = (L.busy R.E q && !decide (q = p)) := fun q => by rw [L.busy_step _ p h.inv hp hb q, hd]; simp
  have hm := L.many_step _ p h.inv hp hb
  obtain ⟨m, hlog⟩ := L.log_step _ p h.inv hp hb
  obtain ⟨rd, hrd, d1, d2, d3, d4⟩ := L.done_step _ p h.inv hp hb hd
  obtain ⟨ho, o1, o2, o3, o4⟩ := h.opn p hp hb
  have hc : ∀ j, (R.ended p i (L.step R.E p).1 (L.step R.E p).2.1).cat j = if j = R.opn p then { R.cat (R.opn p) with to := i, resp := (L.step R.E p).2.1 } else R.cat j := fun j => cat_set ho
  have hlen : (R.ended p i (L.step R.E p).1 (L.step R.E p).2.1).calls.length = R.calls.length := by simp [RunS.ended]
  have hE : (R.ended p i (L.step R.E p).1 (L.step R.E p).2.1).E = (L.step R.E p).1 := rfl
  have hO : (R.ended p i (L.step R.E p).1 (L.step R.E p).2.1).opn = R.opn := rfl
  generalize R.ended p i (L.step R.E p).1 (L.step R.E p).2.1 = R' at *
  have hps : ∀ j, (R'.cat j).p = (R.cat j).p ∧ (R'.cat j).seq = (R.cat j).seq ∧ (R'.cat j).frm = (R.cat j).frm ∧ (R'.cat j).op = (R.cat j).op := fun j => by
    rw [hc]; by_cases e : j = R.opn p
    · subst e; simp
    · simp [e]
  refine ⟨by rw [hE]; exact L.inv_step _ p h.inv hp hb, fun j hj => ?_, fun j k hj hk e1 e2 => ?_, fun q k hq h1 h2 => ?_, fun q hq hbb => ?_, fun j hj ht => ?_, fun j hj ht => ?_, fun j k hj hk h0 h1 x r hx hr1 hr2 => ?_⟩
  · rw [hlen] at hj
    obtain ⟨f1, f2, f3, f4, f5⟩ := h.frm j hj
    refine ⟨by rw [(hps j).1]; exact f1, by rw [(hps j).2.1]; exact f2, by rw [(hps j).2.1, (hps j).1, hE, hm]; exact f3, by rw [(hps j).2.2.1]; omega, ?_⟩
    rw [hc]; split
    · simp only; omega
    · omega
  · rw [hlen] at hj hk
    rw [(hps j).1, (hps k).1] at e1
    rw [(hps j).2.1, (hps k).2.1] at e2
    exact h.one j k hj hk e1 e2
  · rw [hE, hm] at h2
    obtain ⟨j, g1, g2, g3⟩ := h.all q k hq h1 h2
    exact ⟨j, by rw [hlen]; exact g1, by rw [(hps j).1]; exact g2, by rw [(hps j).2.1]; exact g3⟩
  · rw [hE, hbq] at hbb
    simp only [Bool.and_eq_true, Bool.not_eq_true', decide_eq_false_iff_not] at hbb
    obtain ⟨g1, g2, g3, g4, g5⟩ := h.opn q hq hbb.1
    have hne : R.opn q ≠ R.opn p := fun e => hbb.2 (by rw [← g2, e, o1])
    rw [hO, hlen, hE, hm, L.cur_step _ p h.inv hp hb q (by rw [hbq]; simp [hbb])]
    rw [hc, if_neg hne]
    exact ⟨g1, g2, g3, g4, g5⟩
  · rw [hlen] at hj
    have hne : j ≠ R.opn p := fun e => by rw [hc, if_pos e] at ht; simp only at ht; omega
    rw [hc, if_neg hne] at ht ⊢
    obtain ⟨g1, g2⟩ := h.und j hj ht
    rw [hE, hbq, hm]
    refine ⟨?_, g2⟩
    rw [g1]
    have : (R.cat j).p ≠ p := fun e => hne (h.one j _ hj ho (by rw [e, o1]) (by rw [g2, e, o2]))
    simp [this]
  · rw [hlen] at hj
    by_cases e : j = R.opn p
    · subst e
      rw [hc, if_pos rfl, hE]
      exact ⟨rd, hrd, by simp only; rw [d1, o1], by simp only; rw [d2, o2], by simp only; rw [d3, o3], by simp only; exact d4⟩
    · rw [hc, if_neg e] at ht ⊢
      obtain ⟨r, hr, g⟩ := h.don j hj ht
      exact ⟨r, by rw [hE, hlog]; exact List.mem_append_left _ hr, g⟩
  · rw [hlen] at hj hk
    have hkf := (h.frm k hk).2.2.2.1
    rw [(hps k).2.2.1] at h1
    rw [(hps k).1] at hr1
    rw [(hps k).2.1] at hr2
    have e : j ≠ R.opn p := fun e => by rw [hc, if_pos e] at h1; simp only at h1; omega
    rw [hc, if_neg e] at h0 h1 ⊢
    rw [hE] at hx ⊢
    rw [hlog] at hx ⊢
    by_cases hxl : x < (L.log R.E).length
    · rw [List.getElem?_append_left hxl] at hx
      obtain ⟨y, q, hy, g, g'⟩ := h.ord j k hj hk h0 h1 x r hx hr1 hr2
      exact ⟨y, q, hy, by rw [List.getElem?_append_left (by omega)]; exact g, g'⟩
    · obtain ⟨q, hq, g1, g2, _⟩ := h.don j hj h0
      obtain ⟨y, hy⟩ := List.getElem?_of_mem hq
      have hyl := (List.getElem?_eq_some_iff.1 hy).1
      exact ⟨y, q, by omega, by rw [List.getElem?_append_left hyl]; exact hy, g1, g2⟩
/-- One that begins. -/
theorem RInv.begun {i p : Nat} {R : RunS σ} (h : RInv L i R) (hp : p < L.n) (hb : L.busy R.E p = false) (o : Op3) (hf : fitsB o = true) : RInv L (i + 1) (R.begun L p o i) := by
  have hbq := L.busy_invoke _ p o h.inv hp hb
  have hm := L.many_invoke _ p o h.inv hp hb
  have hlog := L.log_invoke _ p o h.inv hp hb
  have hcur := L.cur_invoke _ p o h.inv hp hb
  have hinv := L.inv_invoke _ p o h.inv hp hb hf
  have hmp : L.many (L.invoke R.E p o) p = L.many R.E p + 1 := by rw [hm]; simp
  have hold : ∀ j, j < R.calls.length → (R.begun L p o i).cat j = R.cat j := fun j hj => cat_append hj
  have hnew : (R.begun L p o i).cat R.calls.length = ⟨p, L.many R.E p + 1, i, -1, 0, o⟩ := cat_new
  have hlen : (R.begun L p o i).calls.length = R.calls.length + 1 := by simp [RunS.begun]
  have hE : (R.begun L p o i).E = L.invoke R.E p o := rfl
  have hO : (R.begun L p o i).opn = upd R.opn p R.calls.length := rfl
  generalize R.begun L p o i = R' at *
  have cases2 : ∀ j, j < R.calls.length + 1 → j < R.calls.length ∨ j = R.calls.length := fun j hj => by omega
  have hcount := L.log_many _ h.inv p hp
  refine ⟨by rw [hE]; exact hinv, fun j hj => ?_, fun j k hj hk e1 e2 => ?_, fun q k hq h1 h2 => ?_, fun q hq hbb => ?_, fun j hj ht => ?_, fun j hj ht => ?_, fun j k hj hk h0 h1 x r hx hr1 hr2 => ?_⟩
  · rw [hlen] at hj
    rcases cases2 j hj with hj | rfl
    · rw [hold j hj, hE, hm]
      obtain ⟨f1, f2, f3, f4, f5⟩ := h.frm j hj
      exact ⟨f1, f2, by omega, by omega, by omega⟩
    · rw [hnew, hE]
      simp only
      rw [hmp]
      exact ⟨hp, by omega, by omega, by omega, by omega⟩
  · rw [hlen] at hj hk
    rcases cases2 j hj with hj | rfl <;> rcases cases2 k hk with hk | rfl
    · rw [hold j hj, hold k hk] at e1 e2
      exact h.one j k hj hk e1 e2
    · rw [hold j hj, hnew] at e1 e2
      simp only at e1 e2
      have := (h.frm j hj).2.2.1
      rw [e1] at this
      omega
    · rw [hold k hk, hnew] at e1 e2
      simp only at e1 e2
      have := (h.frm k hk).2.2.1
      rw [← e1] at this
      omega
    · rfl
  · rw [hE, hm] at h2
    by_cases hle : k ≤ L.many R.E q
    · obtain ⟨j, g1, g2, g3⟩ := h.all q k hq h1 hle
      exact ⟨j, by rw [hlen]; omega, by rw [hold j g1]; exact g2, by rw [hold j g1]; exact g3⟩
    · by_cases e : q = p
      · subst e
        rw [if_pos rfl] at h2
        exact ⟨R.calls.length, by rw [hlen]; omega, by rw [hnew], by rw [hnew]; simp only; omega⟩
      · rw [if_neg e] at h2; omega
  · rw [hE] at hbb ⊢
    rw [hO, hlen]
    have hc := hcur q hq hbb
    rw [hbq] at hbb
    by_cases e : q = p
    · subst e
      rw [upd_same, hnew, hmp, hc, if_pos rfl]
      exact ⟨by omega, rfl, rfl, rfl, rfl⟩
    · rw [upd_ne _ _ e, hm, if_neg e, hc, if_neg e]
      obtain ⟨g1, g2, g3, g4, g5⟩ := h.opn q hq (by simpa [e] using hbb)
      rw [hold _ g1]
      exact ⟨by omega, g2, g3, g4, g5⟩
  · rw [hlen] at hj
    rw [hE, hbq, hm]
    rcases cases2 j hj with hj | rfl
    · rw [hold j hj] at ht ⊢
      obtain ⟨g1, g2⟩ := h.und j hj ht
      have e : (R.cat j).p ≠ p := fun e => by rw [e, hb] at g1; simp at g1
      rw [if_neg e, g1]
      exact ⟨rfl, g2⟩
    · rw [hnew]
      simp
  · rw [hlen] at hj
    rw [hE, hlog]
    rcases cases2 j hj with hj | rfl
    · rw [hold j hj] at ht ⊢
      exact h.don j hj ht
    · rw [hnew] at ht; simp at ht
  · rw [hlen] at hj hk
    rw [hE, hlog] at hx ⊢
    have hj : j < R.calls.length := by
      rcases cases2 j hj with hj | rfl
      · exact hj
      · rw [hnew] at h0; simp at h0
    rw [hold j hj] at h0 h1 ⊢
    rcases cases2 k hk with hk | rfl
    · rw [hold k hk] at h1 hr1 hr2
      exact h.ord j k hj hk h0 h1 x r hx hr1 hr2
    · rw [hnew] at hr1 hr2
      simp only at hr1 hr2
      have := ((L.log_ok _ h.inv).seq_le hx).2
      rw [hr1] at this
      omega
theorem RInv.ev {i : Nat} {R : RunS σ} (h : RInv L i R) (e : EvR) : RInv L (i + 1) (evS L R i e) := by
  unfold evS
  split
  · rename_i hp
    split
    · split
      · rename_i hc
        have hc := (codeI_zero L _ _ _).1 hc
        exact h.begun (by omega) hc.2.2.2 _ hc.2.2.1
      · exact h.mono (by omega)
    · split
      · by_cases hb : L.busy R.E e.p.toNat = true
        · rw [stpI_pos L _ _ ⟨hp.1, hp.2, hb⟩]
          split
          · rename_i hd
            exact h.fin (by omega) hb hd
          · rename_i hd
            exact (h.go (by omega) hb (by simpa using hd)).mono (by omega)
        · rw [stpI_neg L _ _ (fun g => hb g.2.2)]
          exact h.mono (by omega)
      · exact h.mono (by omega)
  · exact h.mono (by omega)
theorem RInv.run {R : RunS σ} (h : RInv L 0 R) (f : Nat → EvR) : ∀ k, RInv L k (runS L f R k) := by
  intro k
  induction k with
  | zero => exact h
  | succ k ih => exact ih.ev _
/-- An engine that begins. -/
structure ZeroIf (L : Lin σ) (E : σ) : Prop where
  inv : L.Inv E
  many : ∀ p, p < L.n → L.many E p = 0
  busy : ∀ p, p < L.n → L.busy E p = false
  log : L.log E = []
theorem ZeroIf.rinv {E : σ} (h : ZeroIf L E) : RInv L 0 ⟨E, [], fun _ => 0⟩ := RInv.start L h.inv h.many h.busy
theorem Lin.many_ev (L : Lin σ) {E : σ} (h : L.Inv E) (e : EvR) (p : Nat) : L.many (evG L E e) p ≤ L.many E p + 1 := by
  unfold evG invI
  split
  · split
    · rename_i hc
      have hc := (codeI_zero L _ _ _).1 hc
      rw [L.many_invoke E _ _ h (by omega) hc.2.2.2]
      split <;> omega
    · omega
  · split
    · by_cases hp : 0 ≤ e.p ∧ e.p < L.n ∧ L.busy E e.p.toNat = true
      · rw [stpI_pos L _ _ hp, L.many_step E _ h (by omega) hp.2.2]; omega
      · rw [stpI_neg L _ _ hp]; simp
    · omega
theorem Lin.many_run (L : Lin σ) (f : Nat → EvR) {E : σ} (h : L.Inv E) (p : Nat) : ∀ k, L.many (runG L f E k) p ≤ L.many E p + k := by
  intro k
  induction k with
  | zero => exact Nat.le_refl _
  | succ k ih =>
    have := L.many_ev (L.inv_run f h k) (f k) p
    show L.many (evG L _ _) p ≤ _
    omega
theorem calls_run (f : Nat → EvR) (R : RunS σ) : ∀ k, (runS L f R k).calls.length ≤ R.calls.length + k := by
  intro k
  induction k with
  | zero => exact Nat.le_refl _
  | succ k ih =>
    show (evS L (runS L f R k) k (f k)).calls.length ≤ _
    have : (evS L (runS L f R k) k (f k)).calls.length ≤ (runS L f R k).calls.length + 1 := by
      unfold evS
      split
      · split
        · split
          · simp [RunS.begun]
          · omega
        · split
          · split
            · simp [RunS.ended]
            · exact Nat.le_succ _
          · omega
      · omega
    omega
end
end Go.Proofs.Ytjfenjnnpikkdaa
/- Arguments that are slices of structs with structs in them, all of ints, opened to their cells; scripts. -/
namespace Go.Proofs.Ytjfenjnnpikkdaa
set_option linter.unusedVariables false
set_option maxRecDepth 100000
set_option linter.unusedSimpArgs false
open Go.RowKit Go.ChangeShapes Go.WideShapes Go.Deep
section
variable {H : Type} {enc : TypeId × Value → H} {P : Program} {w : World} {base : Nat} {spare : Nat → Bool} {held : Bool}
theorem open_flat_structs {t e : TypeId} {m fuel : Nat} {x : DataW H × List MemPlace} (ht : P.underlying t = some (.slice e)) (hC : P.cellsOf e = m) (h0 : 0 < m)
    (hflat : ∀ (n : Nat) (cs : List Value) (y : DataW H × List MemPlace), DataW.trod enc P w base (fun _ => true) held n e cs = some y → ∀ j, j < m → ∃ k, cs[j]? = some (.int .i64 k))
    (a : Option Addr) (len cap : Nat) (h : DataW.trod enc P w base (fun _ => true) held fuel t [.slice a len cap] = some x) :
    len ≤ cap ∧ cap ≤ 9223372036854775807 ∧ ∃ f : Nat → Nat → Int, IsOps w a len f m := by
  rcases open_slice ht h with ⟨hcs, _⟩ | ⟨a', len', cap', m', n, D, Pl, hcs, _, hl, hm, hmm, _, hi⟩
  · simp at hcs
    obtain ⟨rfl, rfl, rfl⟩ := hcs
    exact ⟨by omega, by omega, fun _ _ => 0, fun h => by omega⟩
  · simp at hcs
    obtain ⟨rfl, rfl, rfl⟩ := hcs
    simp at hmm
    subst hmm
    have key : ∀ i j, i < len → j < m → ∃ n, w.cell? (a'.add (i * m + j)) = some (.int .i64 n) := by
      intro i j hil hj
      obtain ⟨cs', hc, htr⟩ := hi i (by omega)
      rw [hC] at hc
      obtain ⟨_, hcl, hat⟩ := World.cells?_some hc
      obtain ⟨k, hk⟩ := hflat n cs' _ htr j hj
      refine ⟨k, ?_⟩
      rw [← Go.Deep.add_add, hat j hj, hk]
    simp only [maxLen] at hm
    refine ⟨hl, by omega, fun i j => if h : i < len ∧ j < m then (key i j h.1 h.2).choose else 0, fun hl0 => ?_⟩
    obtain ⟨n0, hc0⟩ := key 0 0 hl0 h0
    have hs := World.cell?_spot hc0
    obtain ⟨b, o, spot⟩ := a'
    have : spot = none := by simpa [Addr.add] using hs
    subst this
    refine ⟨b, o, rfl, ?_, fun i j hil hj => ?_⟩
    · have := World.block_lt_of_cell? _ _ hc0
      simpa [addr_plain] using this
    · have h2 := (key i j hil hj).choose_spec
      have e : (⟨b, o + i * m + j, none⟩ : Addr) = (⟨b, o, none⟩ : Addr).add (i * m + j) := by rw [addr_plain, Nat.add_assoc]
      show w.cell? ⟨b, o + i * m + j, none⟩ = some (.int .i64 (if h : i < len ∧ j < m then (key i j h.1 h.2).choose else 0))
      rw [dif_pos ⟨hil, hj⟩, e]
      exact h2
end
section
variable {H : Type} {enc : TypeId × Value → H} {W : World} {base : Nat} {held : Bool}
theorem flat_op (n : Nat) (cs : List Value) (y : DataW H × List MemPlace) (h : DataW.trod enc Try.prog W base (fun _ => true) held n 37 cs = some y) : ∃ a b c, cs = [.int .i64 a, .int .i64 b, .int .i64 c] := by
  obtain ⟨y0, y1, y2, m', hx', hl, u0, u1, u2⟩ := trod_struct3 Try.underlying37 h
  rw [Try.cells_op] at hl
  obtain ⟨c0, c1, c2, rfl⟩ : ∃ c0 c1 c2, cs = [c0, c1, c2] := by
    match cs, hl with
    | [a, b, c], _ => exact ⟨a, b, c, rfl⟩
  simp only [Try.cells_int, List.drop, List.take] at u0 u1 u2
  obtain ⟨k, e0, _, _⟩ := DataW.trod_int Try.underlying3 u0
  obtain ⟨a, e1, _, _⟩ := DataW.trod_int Try.underlying3 u1
  obtain ⟨b, e2, _, _⟩ := DataW.trod_int Try.underlying3 u2
  simp only [List.cons.injEq, and_true] at e0 e1 e2
  subst e0 e1 e2
  exact ⟨_, _, _, rfl⟩
end
/-- The entry of a script at a place. -/
def evAt (f : Nat → Nat → Int) (i : Nat) : EvR := ⟨f i 0, f i 1, ⟨f i 2, f i 3, f i 4⟩⟩
theorem IsOps.mono {w w' : World} {a : Option Addr} {len k m : Nat} {f : Nat → Nat → Int} (h : IsOps w a len f m) (hb : Below w.heap.size w w') (hk : k ≤ len) : IsOps w' a k f m := by
  intro h0
  obtain ⟨b, o, rfl, hlt, hc⟩ := h (by omega)
  exact ⟨b, o, rfl, Nat.lt_of_lt_of_le hlt hb.size, fun i j hi hj => (hb.cell (p := ⟨b, o + i * m + j, none⟩) hlt).trans (hc i j (by omega) hj)⟩
theorem IsOps.lt {w : World} {a : Option Addr} {len m : Nat} {f : Nat → Nat → Int} (h : IsOps w a len f m) (h0 : 0 < len) : ∀ ba oa, a = some ⟨ba, oa, none⟩ → ba < w.heap.size := by
  intro ba oa e
  obtain ⟨b, o, rfl, hlt, hc⟩ := h h0
  injection e with e
  injection e with e _ _
  omega
end Go.Proofs.Ytjfenjnnpikkdaa
/- One process that goes on alone, in plain Lean, for any engine. -/
namespace Go.Proofs.Ytjfenjnnpikkdaa
set_option linter.unusedVariables false
set_option maxRecDepth 100000
set_option linter.unusedSimpArgs false
section
variable {σ : Type} (L : Lin σ)
/-- Behind k steps of one process, or behind its answer. -/
def soloS (E : σ) (p : Int) : Nat → σ × Int × Bool
  | 0 => (E, 0, false)
  | k + 1 => if (soloS E p k).2.2 = true then soloS E p k else stpI L (soloS E p k).1 p
/-- It ends. -/
structure SoloIf (B : Nat) where
  mu : σ → Nat → Nat
  mu_le : ∀ E p, L.Inv E → p < L.n → L.busy E p = true → mu E p ≤ B
  mu_step : ∀ E p, L.Inv E → p < L.n → L.busy E p = true → (L.step E p).2.2 = false → mu (L.step E p).1 p < mu E p

theorem solo_stay (E : σ) (p : Int) {k : Nat} (h : (soloS L E p k).2.2 = true) : ∀ j, k ≤ j → soloS L E p j = soloS L E p k := by
  intro j
  induction j with
  | zero => intro hj; have : k = 0 := by omega
            subst this; rfl
  | succ j ih =>
    intro hj
    by_cases e : k = j + 1
    · subst e; rfl
    · have := ih (by omega)
      show (if (soloS L E p j).2.2 = true then soloS L E p j else stpI L (soloS L E p j).1 p) = _
      rw [this, if_pos h]
variable {L}
/-- What is so while it has not answered, and when it has. -/
structure SoloR (L : Lin σ) (E : σ) (p : Nat) (t : σ × Int × Bool) : Prop where
  inv : L.Inv t.1
  busy : ∀ q, L.busy t.1 q = (L.busy E q && !(decide (q = p) && t.2.2))
  many : ∀ q, L.many t.1 q = L.many E q
  cur : t.2.2 = false → L.cur t.1 p = L.cur E p
  log : ∃ m, L.log t.1 = L.log E ++ m
  done : t.2.2 = true → ∃ r ∈ L.log t.1, r.proc = p ∧ r.seq = L.many E p ∧ r.op = L.cur E p ∧ r.resp = t.2.1
theorem solo_rel {E : σ} {p : Nat} (hI : L.Inv E) (hp : p < L.n) (hb : L.busy E p = true) : ∀ k, SoloR L E p (soloS L E p k) := by
  intro k
  induction k with
  | zero => exact ⟨hI, fun q => by simp [soloS], fun q => rfl, fun _ => rfl, ⟨[], by simp [soloS]⟩, fun h => by simp [soloS] at h⟩
  | succ k ih =>
    unfold soloS
    by_cases hd : (soloS L E p k).2.2 = true
    · rw [if_pos hd]; exact ih
    · rw [if_neg hd]
      have hd' : (soloS L E p k).2.2 = false := by simpa using hd
      generalize soloS L E p k = t at *
      have hbt : L.busy t.1 p = true := by rw [ih.busy, hd', hb]; simp
      rw [stpI_pos L _ _ ⟨by omega, by omega, by simpa using hbt⟩, Int.toNat_natCast]
      have hm := L.many_step _ p ih.inv hp hbt
      obtain ⟨m, hl⟩ := L.log_step _ p ih.inv hp hbt
      obtain ⟨m0, hl0⟩ := ih.log
      refine ⟨L.inv_step _ p ih.inv hp hbt, fun q => ?_, fun q => by rw [hm, ih.many], fun h => ?_, ⟨m0 ++ m, by rw [hl, hl0]; simp⟩, fun h => ?_⟩
      · rw [L.busy_step _ p ih.inv hp hbt, ih.busy, hd']; simp
      · rw [L.cur_step _ p ih.inv hp hbt p (by rw [L.busy_step _ p ih.inv hp hbt, hbt, h]; simp), ih.cur hd']
      · obtain ⟨r, hr, h1, h2, h3, h4⟩ := L.done_step _ p ih.inv hp hbt h
        exact ⟨r, hr, h1, by rw [h2, ih.many], by rw [h3, ih.cur hd'], h4⟩
theorem solo_done {B : Nat} (S : SoloIf L B) {E : σ} {p : Nat} (hI : L.Inv E) (hp : p < L.n) (hb : L.busy E p = true) : (soloS L E p (B + 1)).2.2 = true := by
  have key : ∀ k, (soloS L E p k).2.2 = true ∨ S.mu (soloS L E p k).1 p + k ≤ B := by
    intro k
    induction k with
    | zero => exact .inr (S.mu_le E p hI hp hb)
    | succ k ih =>
      rcases ih with ih | ih
      · left; unfold soloS; rw [if_pos ih]; exact ih
      · by_cases hd : (soloS L E p k).2.2 = true
        · left; unfold soloS; rw [if_pos hd]; exact hd
        · have hR := solo_rel hI hp hb k
          have hd' : (soloS L E p k).2.2 = false := by simpa using hd
          have hbt : L.busy (soloS L E p k).1 p = true := by rw [hR.busy, hd', hb]; simp
          have e : soloS L E p (k + 1) = L.step (soloS L E p k).1 p := by
            conv => lhs; unfold soloS
            rw [if_neg hd, stpI_pos L _ _ ⟨by omega, by omega, by simpa using hbt⟩, Int.toNat_natCast]
          rw [e]
          by_cases h2 : (L.step (soloS L E p k).1 p).2.2 = true
          · exact .inl h2
          · have := S.mu_step _ p hR.inv hp hbt (by simpa using h2)
            right; omega
  rcases key (B + 1) with h | h
  · exact h
  · omega
/-- The answer of one that begins and goes on alone, when nobody else has something to do. -/
theorem solo_end {E : σ} {p : Nat} {o : Op3} (hI : L.Inv E) (hp : p < L.n) (hid : ∀ q, q < L.n → L.busy E q = false) (hf : fitsB o = true) {k : Nat} (hd : (soloS L (L.invoke E p o) p k).2.2 = true) :
    (soloS L (L.invoke E p o) p k).2.1 = (stepS (behind L.start (L.log E)) o).2 ∧ behind L.start (L.log (soloS L (L.invoke E p o) p k).1) = (stepS (behind L.start (L.log E)) o).1 ∧
      (∀ q, q < L.n → L.busy (soloS L (L.invoke E p o) p k).1 q = false) ∧ L.Inv (soloS L (L.invoke E p o) p k).1 := by
  have hb := hid p hp
  have hI1 := L.inv_invoke E p o hI hp hb hf
  have hb1 : L.busy (L.invoke E p o) p = true := by rw [L.busy_invoke E p o hI hp hb]; simp
  have hc1 : L.cur (L.invoke E p o) p = o := by rw [L.cur_invoke E p o hI hp hb p hp hb1, if_pos rfl]
  have hm1 := L.many_invoke E p o hI hp hb
  have hl1 := L.log_invoke E p o hI hp hb
  have hR := solo_rel hI1 hp hb1 k
  generalize soloS L (L.invoke E p o) p k = t at *
  have hbq : ∀ q, q < L.n → L.busy t.1 q = false := fun q hq => by
    rw [hR.busy, L.busy_invoke E p o hI hp hb, hid q hq, hd]; simp
  obtain ⟨m, hm⟩ := hR.log
  rw [hl1] at hm
  have hct : ∀ q, q < L.n → countL m q = if q = p then 1 else 0 := fun q hq => by
    have h1 := L.log_idle _ hR.inv q hq (hbq q hq)
    have h2 := L.log_idle _ hI q hq (hid q hq)
    rw [hR.many, hm1, hm, countL_append] at h1
    omega
  have hok := L.log_ok _ hR.inv
  have hproc : ∀ r ∈ m, r.proc = p := by
    intro r hr
    have hin : r ∈ L.log t.1 := by rw [hm]; exact List.mem_append_right _ hr
    obtain ⟨x, hx⟩ := List.getElem?_of_mem hin
    have hlt := (hok.at x r hx).2.1
    have h1 := hct r.proc hlt
    by_cases e : r.proc = p
    · exact e
    · rw [if_neg e] at h1
      have : r ∈ m.filter fun s => s.proc == r.proc := List.mem_filter.2 ⟨hr, by simp⟩
      have h2 : 0 < (m.filter fun s => s.proc == r.proc).length := List.length_pos_of_mem this
      unfold countL at h1
      omega
  have hlen : m.length = 1 := by
    have h1 := hct p hp
    rw [if_pos rfl] at h1
    unfold countL at h1
    rwa [List.filter_eq_self.2 (fun r hr => by simp [hproc r hr])] at h1
  obtain ⟨r, rfl⟩ : ∃ r, m = [r] := List.length_eq_one_iff.1 hlen
  have hx : (L.log t.1)[(L.log E).length]? = some r := by rw [hm]; simp
  obtain ⟨g1, g2, g3, g4⟩ := hok.at _ r hx
  rw [hm, List.take_left] at g3 g4
  have hrp := hproc r (by simp)
  obtain ⟨rd, hrd, d1, d2, d3, d4⟩ := hR.done hd
  obtain ⟨y, hy⟩ := List.getElem?_of_mem hrd
  have hseq : rd.seq = r.seq := by rw [d2, hm1, if_pos rfl, g3, hrp, L.log_idle _ hI p hp hb]
  have hy2 := hok.inj hy hx (by rw [d1, hrp]) hseq
  rw [hy2, hx] at hy
  have he : r = rd := by simpa using hy
  subst he
  rw [hc1] at d3
  rw [d3] at g4
  refine ⟨by rw [← d4]; exact g4, ?_, hbq, hR.inv⟩
  rw [hm, behind_snoc, d3]
end
end Go.Proofs.Ytjfenjnnpikkdaa
/- Layer 16 in plain Lean: a process that goes on alone ends. -/
namespace Go.Proofs.Ytjfenjnnpikkdaa
set_option linter.unusedVariables false
set_option maxRecDepth 100000
set_option linter.unusedSimpArgs false
def PS.mu (n : Nat) (E : PS) (p : Nat) : Nat :=
  match (E.procs p).ph with
  | .idle => 0
  | .announce => 2 * (n + 2) + 2
  | .load => (2 - (E.procs p).tries) * (n + 2) + 1
  | .scan => (2 - (E.procs p).tries) * (n + 2) - (E.procs p).q
  | .swap => (2 - (E.procs p).tries) * (n + 2) - n
  | .finish => 1
theorem two_sub (t n : Nat) (h : t = 0 ∨ t = 1) : ((2 - t) * (n + 2) = 2 * (n + 2) ∧ t = 0) ∨ ((2 - t) * (n + 2) = n + 2 ∧ t = 1) := by
  rcases h with rfl | rfl
  · exact .inl ⟨rfl, rfl⟩
  · right; simp
def psSolo (n : Nat) (start : St) : SoloIf (psLin n start) (2 * n + 6) where
  mu E p := E.mu n p
  mu_le E p h hp hb := by
    show E.mu n p ≤ _
    unfold PS.mu
    cases hph : (E.procs p).ph with
    | load =>
      have ht : (E.procs p).tries = 0 ∨ (E.procs p).tries = 1 := by rcases h.load p hp hph with g | g <;> omega
      rcases two_sub _ n ht with ⟨g, _⟩ | ⟨g, _⟩ <;> simp only [g] <;> omega
    | scan =>
      have ht : (E.procs p).tries = 0 ∨ (E.procs p).tries = 1 := by rcases (h.look p hp (.inl hph)).tries with g | g <;> omega
      rcases two_sub _ n ht with ⟨g, _⟩ | ⟨g, _⟩ <;> simp only [g] <;> omega
    | swap =>
      have ht : (E.procs p).tries = 0 ∨ (E.procs p).tries = 1 := by rcases (h.look p hp (.inr hph)).tries with g | g <;> omega
      rcases two_sub _ n ht with ⟨g, _⟩ | ⟨g, _⟩ <;> simp only [g] <;> omega
    | _ => simp only; omega
  mu_step E p h hp hb hd := by
    show (E.step n p).1.mu n p < E.mu n p
    have hb' : (E.procs p).ph ≠ .idle := by simpa [psLin] using hb
    have hd' : (E.step n p).2.2 = false := hd
    unfold PS.step at hd' ⊢
    cases hph : (E.procs p).ph with
    | idle => exact absurd hph hb'
    | announce => simp only [PS.mu, PS.announce, upd_same, hph]; omega
    | load =>
      have ht : (E.procs p).tries = 0 ∨ (E.procs p).tries = 1 := by rcases h.load p hp hph with g | g <;> omega
      simp only [PS.mu, PS.load, upd_same, hph]; omega
    | scan =>
      have hl := h.look p hp (.inl hph)
      have ht : (E.procs p).tries = 0 ∨ (E.procs p).tries = 1 := by rcases hl.tries with g | g <;> omega
      have hq := hl.qscan hph
      simp only [PS.mu, PS.scan, upd_same, hph]
      rcases two_sub _ n ht with ⟨g, _⟩ | ⟨g, _⟩ <;> simp only [g] <;> by_cases c : (E.procs p).q + 1 < n <;> simp only [c, if_true, if_false] <;> omega
    | swap =>
      have hl := h.look p hp (.inr hph)
      have ht : (E.procs p).tries = 0 ∨ (E.procs p).tries = 1 := by rcases hl.tries with g | g <;> omega
      simp only [PS.mu, PS.swap, upd_same, hph]
      rcases ht with g | g <;> simp [g] <;> omega
    | finish => rw [hph] at hd'; simp at hd'
end Go.Proofs.Ytjfenjnnpikkdaa
