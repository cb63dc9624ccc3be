/-
  Package machine: each method's contract over an abstract machine (cells, steps).
-/
import Derived.Test.YtjfenjnnpikkdaaProg
import Derived.BigQuiet
import Derived.Outline
import Derived.Deep.OwnRows
import Derived.Test.YtjfenjnnpikkdaaKa
set_option linter.unusedVariables false
set_option linter.unusedSimpArgs false
namespace Go.Proofs.Ytjfenjnnpikkdaa
set_option maxRecDepth 100000
open Go.RowKit

/-- An abstract machine. -/
structure MS where
  cells : List Int
  steps : List Int
  deriving DecidableEq

structure Mach (w : World) (bm : Nat) (vc vs : Value) (M : MS) : Prop where
  blk : Blk w bm #[vc, vs] 108
  cells : Own w 3 1 vc M.cells.length (ints M.cells)
  steps : Own w 3 1 vs M.steps.length (ints M.steps)
  apart : ∀ k, vc.ownBlock = some k → vs.ownBlock ≠ some k
  lenC : M.cells.length ≤ 17592186044416
  lenS : M.steps.length ≤ 17592186044416

/-- The blocks of a machine. -/
def machF (bm : Nat) (vc vs : Value) (k : Nat) : Prop := k = bm ∨ vc.ownBlock = some k ∨ vs.ownBlock = some k

def MS.step (M : MS) (p : Int) : MS := if 0 ≤ p ∧ p < M.steps.length then { M with steps := M.steps.set p.toNat (wrap64 (M.steps.getD p.toNat 0 + 1)) } else M
def MS.has (M : MS) (c : Int) : Prop := 0 ≤ c ∧ c < M.cells.length
instance (M : MS) (c : Int) : Decidable (M.has c) := by unfold MS.has; infer_instance
def MS.get (M : MS) (c : Int) : Int := if M.has c then M.cells.getD c.toNat 0 else 0
def MS.put (M : MS) (c n : Int) : MS := if M.has c then { M with cells := M.cells.set c.toNat n } else M
def MS.stepsOf (M : MS) (p : Int) : Int := if 0 ≤ p ∧ p < M.steps.length then M.steps.getD p.toNat 0 else 0
theorem MS.step_cells (M : MS) (p : Int) : (M.step p).cells = M.cells := by unfold MS.step; split <;> rfl
theorem MS.step_has (M : MS) (p c : Int) : (M.step p).has c ↔ M.has c := by simp [MS.has, MS.step_cells]
theorem MS.step_len (M : MS) (p : Int) : (M.step p).steps.length = M.steps.length := by unfold MS.step; split <;> simp
namespace Mach
variable {w w' : World} {bm : Nat} {vc vs : Value} {M : MS}
theorem lt (h : Mach w bm vc vs M) {k : Nat} (hk : machF bm vc vs k) : k < w.heap.size := by
  rcases hk with rfl | hk | hk
  · exact h.blk.lt
  · exact own_lt h.cells hk
  · exact own_lt h.steps hk
theorem neC (h : Mach w bm vc vs M) : vc.ownBlock ≠ some bm := own_blk_ne h.cells h.blk (by decide)
theorem neS (h : Mach w bm vc vs M) : vs.ownBlock ≠ some bm := own_blk_ne h.steps h.blk (by decide)
theorem keeps {G : Nat → Prop} (h : Mach w bm vc vs M) (k : Keeps G w w') (hd : ∀ k, machF bm vc vs k → ¬ G k) : Mach w' bm vc vs M :=
  ⟨h.blk.keeps k (hd _ (.inl rfl)), own_keeps h.cells k (fun b hb => hd _ (.inr (.inl hb))), own_keeps h.steps k (fun b hb => hd _ (.inr (.inr hb))), h.apart, h.lenC, h.lenS⟩
theorem alloc (h : Mach w bm vc vs M) (o : Obj) : Mach (w.alloc o) bm vc vs M := h.keeps (G := fun _ => False) ((Keeps.refl _ w).alloc o) (by simp)
theorem drew (h : Mach w bm vc vs M) : Mach w.drew bm vc vs M := ⟨h.blk.drew, h.cells, h.steps, h.apart, h.lenC, h.lenS⟩
theorem drewN (h : Mach w bm vc vs M) (n : Nat) : Mach (w.drewN n) bm vc vs M := ⟨h.blk.drewN n, h.cells, h.steps, h.apart, h.lenC, h.lenS⟩
/-- A store into a block that is none of the machine's. -/
theorem other (h : Mach w bm vc vs M) {a : Addr} (ha : ¬ machF bm vc vs a.block) (v : Value) : Mach (w.setCell a v) bm vc vs M :=
  h.keeps (Keeps.one w a v) (fun k hk e => ha (e ▸ hk))
theorem storeC {gc nc cc : Nat} (h : Mach w bm (.slice (some ⟨gc, 0, none⟩) nc cc) vs M) (i : Nat) (v : Int) : Mach (w.setCell ⟨gc, i, none⟩ (.int .i64 v)) bm (.slice (some ⟨gc, 0, none⟩) nc cc) vs { M with cells := M.cells.set i v } := by
  have hn : nc = M.cells.length := by
    rcases h.cells.2 with ⟨h1, _⟩ | ⟨g, cap, cur, h1, _⟩
    · simp at h1
    · simp at h1; omega
  subst hn
  have hbm : bm ≠ gc := fun e => h.neC (by simp [Value.ownBlock, e])
  have hv : vs.ownBlock ≠ some gc := h.apart gc rfl
  refine ⟨h.blk.other hbm _, ?_, ?_, h.apart, by simpa using h.lenC, h.lenS⟩
  · have := World.ownsRow.stored h.cells i (.int .i64 v)
    rw [ints_set] at this
    simpa using this.1
  · exact own_keeps h.steps (Keeps.one w _ _) (fun b hb e => hv (by rw [hb]; exact congrArg some e))
theorem storeS {gs ns cs : Nat} (h : Mach w bm vc (.slice (some ⟨gs, 0, none⟩) ns cs) M) (i : Nat) (v : Int) : Mach (w.setCell ⟨gs, i, none⟩ (.int .i64 v)) bm vc (.slice (some ⟨gs, 0, none⟩) ns cs) { M with steps := M.steps.set i v } := by
  have hn : ns = M.steps.length := by
    rcases h.steps.2 with ⟨h1, _⟩ | ⟨g, cap, cur, h1, _⟩
    · simp at h1
    · simp at h1; omega
  subst hn
  have hbm : bm ≠ gs := fun e => h.neS (by simp [Value.ownBlock, e])
  have hv : vc.ownBlock ≠ some gs := fun e => h.apart gs e rfl
  refine ⟨h.blk.other hbm _, ?_, ?_, h.apart, h.lenC, by simpa using h.lenS⟩
  · exact own_keeps h.cells (Keeps.one w _ _) (fun b hb e => hv (by rw [hb]; exact congrArg some e))
  · have := World.ownsRow.stored h.steps i (.int .i64 v)
    rw [ints_set] at this
    simpa using this.1
theorem ofLenC (h : Mach w bm vc vs M) : ∃ a c, vc = .slice a M.cells.length c := by
  rcases h.cells.2 with ⟨rfl, e⟩ | ⟨g, cap, cur, rfl, _⟩
  · exact ⟨none, 0, by rw [e]⟩
  · exact ⟨_, cap, rfl⟩
theorem ofLenS (h : Mach w bm vc vs M) : ∃ a c, vs = .slice a M.steps.length c := by
  rcases h.steps.2 with ⟨rfl, e⟩ | ⟨g, cap, cur, rfl, _⟩
  · exact ⟨none, 0, by rw [e]⟩
  · exact ⟨_, cap, rfl⟩
end Mach
end Go.Proofs.Ytjfenjnnpikkdaa
/- Package machine: the walks of its methods. -/
namespace Go.Proofs.Ytjfenjnnpikkdaa
set_option maxRecDepth 100000
open Go.RowKit

theorem hmf : ∀ (fn : Fn) (first cap : Array Value) (w : World), (Instr.makeFunc fn first cap).run Try.prog w = .ok (.func fn first cap) w := fun _ _ _ _ => rfl

/-- What the walks ask of a process that is there. -/
theorem Mach.viewS {w : World} {bm : Nat} {vc vs : Value} {M : MS} (h : Mach w bm vc vs M) {p : Int} (hp : 0 ≤ p ∧ p < M.steps.length) :
    ∃ gs cs q s, p = (q : Nat) ∧ q < M.steps.length ∧ vs = .slice (some ⟨gs, 0, none⟩) M.steps.length cs ∧ w.cell? ⟨gs, q, none⟩ = some (.int .i64 s) ∧ w.frozen? ⟨gs, q, none⟩ = false ∧ gs < w.heap.size ∧ bm ≠ gs ∧ M.step p = { M with steps := M.steps.set q (wrap64 (s + 1)) } := by
  obtain ⟨q, rfl⟩ := Int.eq_ofNat_of_zero_le hp.1
  have hq : q < M.steps.length := by have := hp.2; omega
  obtain ⟨gs, cs, rfl, _⟩ := own_open h.steps (by omega)
  refine ⟨gs, cs, q, M.steps.getD q 0, rfl, hq, rfl, ?_, World.ownsRow.frozenAt h.steps q, own_lt h.steps rfl, fun e => h.neS (by simp [Value.ownBlock, e]), ?_⟩
  · rw [World.ownsRow.cellAt h.steps q (by omega), ints_get _ _ hq]
  · unfold MS.step
    rw [if_pos hp]
    simp
theorem Mach.viewC {w : World} {bm : Nat} {vc vs : Value} {M : MS} (h : Mach w bm vc vs M) {c : Int} (hp : M.has c) :
    ∃ gc cc q n0, c = (q : Nat) ∧ q < M.cells.length ∧ vc = .slice (some ⟨gc, 0, none⟩) M.cells.length cc ∧ w.cell? ⟨gc, q, none⟩ = some (.int .i64 n0) ∧ w.frozen? ⟨gc, q, none⟩ = false ∧ gc < w.heap.size ∧ bm ≠ gc ∧ M.get c = n0 ∧ ∀ n, M.put c n = { M with cells := M.cells.set q n } := by
  obtain ⟨q, rfl⟩ := Int.eq_ofNat_of_zero_le hp.1
  have hq : q < M.cells.length := by have := hp.2; omega
  obtain ⟨gc, cc, rfl, _⟩ := own_open h.cells (by omega)
  refine ⟨gc, cc, q, M.cells.getD q 0, rfl, hq, rfl, ?_, World.ownsRow.frozenAt h.cells q, own_lt h.cells rfl, fun e => h.neC (by simp [Value.ownBlock, e]), ?_, ?_⟩
  · rw [World.ownsRow.cellAt h.cells q (by omega), ints_get _ _ hq]
  · unfold MS.get
    rw [if_pos hp]
    simp
  · intro n
    unfold MS.put
    rw [if_pos hp]
    simp


theorem Mach.stepStore {w : World} {bm : Nat} {vc : Value} {gs cs : Nat} {M : MS} {n : Nat} (h : Mach w bm vc (.slice (some ⟨gs, 0, none⟩) n cs) M) (i : Nat) (v : Int) :
    Keeps (machF bm vc (.slice (some ⟨gs, 0, none⟩) n cs)) w (w.setCell ⟨gs, i, none⟩ (.int .i64 v)) :=
  (Keeps.refl _ w).setCell (.inl (.inr (.inr rfl))) _

set_option maxHeartbeats 800000 in
theorem mach_access_out {w : World} {bm : Nat} {vc vs : Value} {M : MS} (h : Mach w bm vc vs M) (p c : Int) (f : Value) (hc : ¬ M.has c) :
    Calls Try.prog 71 #[.pointer (some ⟨bm, 0, none⟩), .int .i64 p, .int .i64 c, f] w fun e w' =>
      e = .returned (.tuple #[]) ∧ Mach w' bm vc vs (M.step p) ∧ Keeps (machF bm vc vs) w w' := by
  have h0 : w.cell? ⟨bm, 0, none⟩ = some vc := by rw [h.blk.cell]; rfl
  have h1 : w.cell? ⟨bm, 1, none⟩ = some vs := by rw [h.blk.cell]; rfl
  have hb := h.blk.lt
  have hlc := h.lenC
  have hls := h.lenS
  have hc' : ¬ 0 ≤ c ∨ (0 ≤ c ∧ ¬ c < M.cells.length) := by unfold MS.has at hc; omega
  clear hc
  by_cases hp : 0 ≤ p ∧ p < M.steps.length
  · obtain ⟨gs, cs, q, s, rfl, hq, rfl, hs, hsf, hsl, hsb, hst⟩ := h.viewS hp
    obtain ⟨ac, cc, rfl⟩ := h.ofLenC
    rw [hst]
    have H := Lib.hid h
    clear h hst
    rcases hc' with hc | ⟨hc, hc2⟩
    all_goals
      go_enter Try.func71, Try.ntmps71
      go_wp2
      go_end0
      exact ⟨rfl, H.out.storeS _ _, H.out.stepStore _ _⟩
  · have hst : M.step p = M := by unfold MS.step; rw [if_neg hp]
    obtain ⟨ac, cc, rfl⟩ := h.ofLenC
    obtain ⟨as0, cs, rfl⟩ := h.ofLenS
    rw [hst]
    have H := Lib.hid h
    clear h hst
    have hp' : ¬ 0 ≤ p ∨ (0 ≤ p ∧ ¬ p < M.steps.length) := by omega
    clear hp
    rcases hp' with hp | ⟨hp, hp2⟩ <;> rcases hc' with hc | ⟨hc, hc2⟩
    all_goals
      go_enter Try.func71, Try.ntmps71
      go_wp2
      go_end0
      exact ⟨rfl, H.out, Keeps.refl _ _⟩

set_option maxHeartbeats 800000 in
theorem mach_access_in {w : World} {bm : Nat} {vc vs : Value} {M : MS} (h : Mach w bm vc vs M) (p : Int) (gc nc cc q : Nat) (hvc : vc = .slice (some ⟨gc, 0, none⟩) nc cc) (hq : q < M.cells.length) (k : Nat) (caps : Array Value) (R : World → Prop)
    (hk : ∀ args W, (callFunc k args).run Try.prog W = .ok (.enter k args) W)
    (hcl : ∀ W, Mach W bm vc vs (M.step p) → Keeps (machF bm vc vs) w W → Calls Try.prog k (#[.pointer (some ⟨gc, q, none⟩)] ++ caps) W fun e w' => e = .returned (.tuple #[]) ∧ R w') :
    Calls Try.prog 71 #[.pointer (some ⟨bm, 0, none⟩), .int .i64 p, .int .i64 q, .func (Fn.func k) #[] caps] w fun e w' =>
      e = .returned (.tuple #[]) ∧ R w' := by
  have h0 : w.cell? ⟨bm, 0, none⟩ = some vc := by rw [h.blk.cell]; rfl
  have h1 : w.cell? ⟨bm, 1, none⟩ = some vs := by rw [h.blk.cell]; rfl
  have hb := h.blk.lt
  have hlc := h.lenC
  have hls := h.lenS
  by_cases hp : 0 ≤ p ∧ p < M.steps.length
  · obtain ⟨gs, cs, r, s, rfl, hr, rfl, hs, hsf, hsl, hsb, hst⟩ := h.viewS hp
    have hcl' := hcl (w.setCell ⟨gs, r, none⟩ (.int .i64 (wrap64 (s + 1)))) (by rw [hst]; exact h.storeS _ _) (h.stepStore _ _)
    obtain ⟨a1, c1, hvc'⟩ := h.ofLenC
    rw [hvc] at hvc'
    injection hvc' with e1 e2 e3
    subst e1 e2
    subst hvc
    have H := Lib.hid h
    have HC := Lib.hid hcl'
    clear h hst hcl hcl'
    go_enter Try.func71, Try.ntmps71
    go_wp2_with fail
    refine HC.out.mono ?_
    rintro e w' ⟨rfl, hR⟩
    go_wp2
    go_end0
    exact ⟨rfl, hR⟩
  · have hst : M.step p = M := by unfold MS.step; rw [if_neg hp]
    have hcl' := hcl w (by rw [hst]; exact h) (Keeps.refl _ _)
    obtain ⟨a1, c1, hvc'⟩ := h.ofLenC
    rw [hvc] at hvc'
    injection hvc' with e1 e2 e3
    subst e1 e2
    subst hvc
    obtain ⟨as0, cs, rfl⟩ := h.ofLenS
    have HC := Lib.hid hcl'
    clear h hst hcl hcl'
    have hp' : ¬ 0 ≤ p ∨ (0 ≤ p ∧ ¬ p < M.steps.length) := by omega
    clear hp
    rcases hp' with hp | ⟨hp, hp2⟩
    all_goals
      go_enter Try.func71, Try.ntmps71
      go_wp2_with fail
      refine HC.out.mono ?_
      rintro e w' ⟨rfl, hR⟩
      go_wp2
      go_end0
      exact ⟨rfl, hR⟩

/-! The closures. -/
theorem call_read (args : Array Value) (W : World) : (callFunc 81 args).run Try.prog W = .ok (.enter 81 args) W := by
  go_simp
theorem cl_read (W : World) (gc q gn : Nat) (c z : Int) (hc : W.cell? ⟨gc, q, none⟩ = some (.int .i64 c)) (hn : W.cell? ⟨gn, 0, none⟩ = some (.int .i64 z)) (hf : W.frozen? ⟨gn, 0, none⟩ = false) :
    Calls Try.prog 81 #[.pointer (some ⟨gc, q, none⟩), .pointer (some ⟨gn, 0, none⟩)] W fun e w' => e = .returned (.tuple #[]) ∧ w' = W.setCell ⟨gn, 0, none⟩ (.int .i64 c) := by
  go_enter Try.func81, Try.ntmps81
  go_wp2
  go_end0
  exact ⟨rfl, rfl⟩
theorem cl_write (W : World) (gc q gn : Nat) (c z : Int) (hc : W.cell? ⟨gc, q, none⟩ = some (.int .i64 c)) (hf : W.frozen? ⟨gc, q, none⟩ = false) (hn : W.cell? ⟨gn, 0, none⟩ = some (.int .i64 z)) :
    Calls Try.prog 72 #[.pointer (some ⟨gc, q, none⟩), .pointer (some ⟨gn, 0, none⟩)] W fun e w' => e = .returned (.tuple #[]) ∧ w' = W.setCell ⟨gc, q, none⟩ (.int .i64 z) := by
  go_enter Try.func72, Try.ntmps72
  go_wp2
  go_end0
  exact ⟨rfl, rfl⟩
theorem cl_swap_yes (W : World) (gc q gi go_ gn : Nat) (c z : Int) (b : Bool) (hc : W.cell? ⟨gc, q, none⟩ = some (.int .i64 c)) (hf : W.frozen? ⟨gc, q, none⟩ = false) (ho : W.cell? ⟨go_, 0, none⟩ = some (.int .i64 c)) (hn : W.cell? ⟨gn, 0, none⟩ = some (.int .i64 z)) (hw : W.cell? ⟨gi, 0, none⟩ = some (.bool b)) (hwf : W.frozen? ⟨gi, 0, none⟩ = false) (hne : gi ≠ gc) (hne2 : gi ≠ gn) :
    Calls Try.prog 99 #[.pointer (some ⟨gc, q, none⟩), .pointer (some ⟨go_, 0, none⟩), .pointer (some ⟨gi, 0, none⟩), .pointer (some ⟨gn, 0, none⟩)] W fun e w' => e = .returned (.tuple #[]) ∧ w' = ((W.setCell ⟨gi, 0, none⟩ (.bool true)).setCell ⟨gc, q, none⟩ (.int .i64 z)).drew := by
  have hcc : (c == c) = true := by simp
  go_enter Try.func99, Try.ntmps99
  go_wp2
  go_region
  all_goals
    go_wp2
    go_end0
    exact ⟨rfl, rfl⟩
theorem cl_swap_no (W : World) (gc q gi go_ gn : Nat) (c d : Int) (b : Bool) (hcd : (c == d) = false) (hc : W.cell? ⟨gc, q, none⟩ = some (.int .i64 c)) (ho : W.cell? ⟨go_, 0, none⟩ = some (.int .i64 d)) (hw : W.cell? ⟨gi, 0, none⟩ = some (.bool b)) (hwf : W.frozen? ⟨gi, 0, none⟩ = false) :
    Calls Try.prog 99 #[.pointer (some ⟨gc, q, none⟩), .pointer (some ⟨go_, 0, none⟩), .pointer (some ⟨gi, 0, none⟩), .pointer (some ⟨gn, 0, none⟩)] W fun e w' => e = .returned (.tuple #[]) ∧ w' = (W.setCell ⟨gi, 0, none⟩ (.bool false)).drew := by
  go_enter Try.func99, Try.ntmps99
  go_wp2
  go_region
  all_goals
    go_wp2
    go_end0
    exact ⟨rfl, rfl⟩
end Go.Proofs.Ytjfenjnnpikkdaa
/- Package machine: its methods' contracts. -/
namespace Go.Proofs.Ytjfenjnnpikkdaa
set_option maxRecDepth 100000
open Go.RowKit

theorem Mach.cellAt {w : World} {bm gc n cc : Nat} {vs : Value} {M : MS} (h : Mach w bm (.slice (some ⟨gc, 0, none⟩) n cc) vs M) {q : Nat} (hq : q < M.cells.length) :
    w.cell? ⟨gc, q, none⟩ = some (.int .i64 (M.cells.getD q 0)) ∧ w.frozen? ⟨gc, q, none⟩ = false := by
  have hn : n = M.cells.length := by
    obtain ⟨a, c, e⟩ := h.ofLenC
    simp at e; omega
  subst hn
  exact ⟨by rw [World.ownsRow.cellAt h.cells q (by omega), ints_get _ _ hq], World.ownsRow.frozenAt h.cells q⟩

theorem Mach.newNot {w : World} {bm : Nat} {vc vs : Value} {M : MS} (h : Mach w bm vc vs M) {k : Nat} (hk : w.heap.size ≤ k) : ¬ machF bm vc vs k := fun hf => by
  have := h.lt hf
  omega

theorem call_write (args : Array Value) (W : World) : (callFunc 72 args).run Try.prog W = .ok (.enter 72 args) W := by
  go_simp
theorem call_swap (args : Array Value) (W : World) : (callFunc 99 args).run Try.prog W = .ok (.enter 99 args) W := by
  go_simp

/-- What a method leaves: the machine, all else as it was, and its own variable's cell. -/
def After (w : World) (bm : Nat) (vc vs : Value) (M : MS) (b : Nat) (v : Value) (w' : World) : Prop :=
  Mach w' bm vc vs M ∧ Keeps (machF bm vc vs) w w' ∧ w'.cell? ⟨b, 0, none⟩ = some v ∧ w'.frozen? ⟨b, 0, none⟩ = false

set_option maxHeartbeats 800000 in
theorem mach_read {w : World} {bm : Nat} {vc vs : Value} {M : MS} (h : Mach w bm vc vs M) (p c : Int) :
    Calls Try.prog 62 #[.pointer (some ⟨bm, 0, none⟩), .int .i64 p, .int .i64 c] w fun e w' =>
      e = .returned (.int .i64 (M.get c)) ∧ Mach w' bm vc vs (M.step p) ∧ Keeps (machF bm vc vs) w w' := by
  have hm := hmf
  have hnew : ¬ machF bm vc vs w.heap.size := h.newNot (Nat.le_refl _)
  by_cases hc : M.has c
  · obtain ⟨gc, cc, q, n0, rfl, hq, rfl, hcc, hcf, hcl, hcb, hget, hput⟩ := h.viewC hc
    rw [hget]
    have ACC := mach_access_in (h.alloc (.cells #[.int .i64 0] 3)) p gc _ cc q rfl hq 81 #[.pointer (some ⟨w.heap.size, 0, none⟩)] (After w bm _ vs (M.step p) w.heap.size (.int .i64 n0)) call_read (by
      intro W hW kW
      have hcW : W.cell? ⟨gc, q, none⟩ = some (.int .i64 n0) := by
        rw [(hW.cellAt (q := q) (by rw [MS.step_cells]; exact hq)).1, MS.step_cells, ← hget, MS.get, if_pos hc, Int.toNat_natCast]
      have hB := (Blk.new w #[.int .i64 0] 3).keeps kW hnew
      refine (cl_read W gc q w.heap.size n0 0 hcW (by rw [hB.cell]; rfl) (hB.frozen 0)).mono ?_
      rintro e w' ⟨rfl, rfl⟩
      have hB' := hB.set 0 (.int .i64 n0)
      exact ⟨rfl, hW.other hnew _, ((((Keeps.refl _ w).alloc _).trans' kW).set w.heap.size 0 (.inr (Nat.le_refl _)) _), by rw [hB'.cell]; rfl, hB'.frozen 0⟩)
    have HA := Lib.hid ACC
    clear ACC h hget hput hc
    go_enter Try.func62, Try.ntmps62
    go_wp2_with fail
    refine HA.out.mono ?_
    rintro e w' ⟨rfl, hM, hK, hc1, hf1⟩
    go_wp2
    have hc2 := World.cell?_setCell_same w' ⟨w.heap.size, 0, none⟩ (.int .i64 n0) hc1
    exact bodyPost_ret (v := .int .i64 n0) (by simp [results, Try.results62, go_sem, hc2]) rfl ⟨rfl, hM.other hnew _, hK.set w.heap.size 0 (.inr (Nat.le_refl _)) _⟩
  · have hget : M.get c = 0 := by unfold MS.get; rw [if_neg hc]
    rw [hget]
    have ACC := mach_access_out (h.alloc (.cells #[.int .i64 0] 3)) p c (.func (Fn.func 81) #[] #[.pointer (some ⟨w.heap.size, 0, none⟩)]) hc
    have HA := Lib.hid ACC
    clear ACC h hget hc
    go_enter Try.func62, Try.ntmps62
    go_wp2_with fail
    refine HA.out.mono ?_
    rintro e w' ⟨rfl, hM, hK⟩
    have hB := (Blk.new w #[.int .i64 0] 3).keeps hK hnew
    have hc1 : w'.cell? ⟨w.heap.size, 0, none⟩ = some (.int .i64 0) := by rw [hB.cell]; rfl
    have hf1 := hB.frozen 0
    go_wp2
    have hc2 := World.cell?_setCell_same w' ⟨w.heap.size, 0, none⟩ (.int .i64 0) hc1
    exact bodyPost_ret (v := .int .i64 0) (by simp [results, Try.results62, go_sem, hc2]) rfl ⟨rfl, hM.other hnew _, (((Keeps.refl _ w).alloc _).trans' hK).set w.heap.size 0 (.inr (Nat.le_refl _)) _⟩

set_option maxHeartbeats 800000 in
theorem mach_write {w : World} {bm : Nat} {vc vs : Value} {M : MS} (h : Mach w bm vc vs M) (p c n : Int) :
    Calls Try.prog 53 #[.pointer (some ⟨bm, 0, none⟩), .int .i64 p, .int .i64 c, .int .i64 n] w fun e w' =>
      e = .returned (.tuple #[]) ∧ Mach w' bm vc vs ((M.step p).put c n) ∧ Keeps (machF bm vc vs) w w' := by
  have hm := hmf
  have hnew : ¬ machF bm vc vs w.heap.size := h.newNot (Nat.le_refl _)
  by_cases hc : M.has c
  · obtain ⟨gc, cc, q, n0, rfl, hq, rfl, hcc, hcf, hcl, hcb, hget, hput⟩ := h.viewC hc
    have ACC := mach_access_in (h.alloc (.cells #[.int .i64 n] 3)) p gc _ cc q rfl hq 72 #[.pointer (some ⟨w.heap.size, 0, none⟩)] (fun w' => Mach w' bm (.slice (some ⟨gc, 0, none⟩) M.cells.length cc) vs ((M.step p).put q n) ∧ Keeps (machF bm (.slice (some ⟨gc, 0, none⟩) M.cells.length cc) vs) w w') call_write (by
      intro W hW kW
      have hcW := hW.cellAt (q := q) (by rw [MS.step_cells]; exact hq)
      have hB := (Blk.new w #[.int .i64 n] 3).keeps kW hnew
      refine (cl_write W gc q w.heap.size _ n hcW.1 hcW.2 (by rw [hB.cell]; rfl)).mono ?_
      rintro e w' ⟨rfl, rfl⟩
      have hp : (M.step p).put q n = { (M.step p) with cells := (M.step p).cells.set q n } := by
        unfold MS.put
        rw [if_pos (by rw [MS.step_has]; exact hc), Int.toNat_natCast]
      rw [hp]
      exact ⟨rfl, hW.storeC q n, (((Keeps.refl _ w).alloc _).trans' kW).set gc q (.inl (.inr (.inl rfl))) _⟩)
    have HA := Lib.hid ACC
    clear ACC h hget hput hc
    go_enter Try.func53, Try.ntmps53
    go_wp2_with fail
    refine HA.out.mono ?_
    rintro e w' ⟨rfl, hM, hK⟩
    go_wp2
    go_end0
    exact ⟨rfl, hM, hK⟩
  · have hp : (M.step p).put c n = M.step p := by unfold MS.put; rw [if_neg (by rw [MS.step_has]; exact hc)]
    rw [hp]
    have ACC := mach_access_out (h.alloc (.cells #[.int .i64 n] 3)) p c (.func (Fn.func 72) #[] #[.pointer (some ⟨w.heap.size, 0, none⟩)]) hc
    have HA := Lib.hid ACC
    clear ACC h hp hc
    go_enter Try.func53, Try.ntmps53
    go_wp2_with fail
    refine HA.out.mono ?_
    rintro e w' ⟨rfl, hM, hK⟩
    go_wp2
    go_end0
    exact ⟨rfl, hM, ((Keeps.refl _ w).alloc _).trans' hK⟩

/-- What a swap leaves. -/
def MS.swap (M : MS) (p c o n : Int) : MS := if M.has c ∧ M.get c = o then (M.step p).put c n else M.step p
def MS.swaps (M : MS) (c o : Int) : Bool := decide (M.has c ∧ M.get c = o)

set_option maxHeartbeats 1600000 in
theorem mach_swap {w : World} {bm : Nat} {vc vs : Value} {M : MS} (h : Mach w bm vc vs M) (p c o n : Int) :
    Calls Try.prog 94 #[.pointer (some ⟨bm, 0, none⟩), .int .i64 p, .int .i64 c, .int .i64 o, .int .i64 n] w fun e w' =>
      e = .returned (.bool (M.swaps c o)) ∧ Mach w' bm vc vs (M.swap p c o n) ∧ Keeps (machF bm vc vs) w w' := by
  have hm := hmf
  have hnew : ¬ machF bm vc vs w.heap.size := h.newNot (Nat.le_refl _)
  have hnew1 : ¬ machF bm vc vs (w.heap.size + 1) := h.newNot (by omega)
  have hnew2 : ¬ machF bm vc vs (w.heap.size + 1 + 1) := h.newNot (by omega)
  have hA0 := ((h.alloc (.cells #[.int .i64 o] 3)).alloc (.cells #[.int .i64 n] 3)).alloc (.cells #[.bool false] 4)
  have kA0 : Keeps (machF bm vc vs) w (((w.alloc (.cells #[.int .i64 o] 3)).alloc (.cells #[.int .i64 n] 3)).alloc (.cells #[.bool false] 4)) := (((Keeps.refl _ w).alloc _).alloc _).alloc _
  have bo := ((Blk.new w #[.int .i64 o] 3).alloc (.cells #[.int .i64 n] 3)).alloc (.cells #[.bool false] 4)
  have bn := (Blk.new (w.alloc (.cells #[.int .i64 o] 3)) #[.int .i64 n] 3).alloc (.cells #[.bool false] 4)
  have bw := Blk.new ((w.alloc (.cells #[.int .i64 o] 3)).alloc (.cells #[.int .i64 n] 3)) #[.bool false] 4
  simp only [World.size_alloc] at bw bn
  by_cases hc : M.has c
  · obtain ⟨gc, cc, q, n0, rfl, hq, rfl, hcc, hcf, hcl, hcb, hget, hput⟩ := h.viewC hc
    have ACC := mach_access_in hA0 p gc _ cc q rfl hq 99 #[.pointer (some ⟨w.heap.size, 0, none⟩), .pointer (some ⟨w.heap.size + 1 + 1, 0, none⟩), .pointer (some ⟨w.heap.size + 1, 0, none⟩)] (After w bm _ vs (M.swap p q o n) (w.heap.size + 1 + 1) (.bool (M.swaps q o))) call_swap (by
      intro W hW kW
      have hcW := hW.cellAt (q := q) (by rw [MS.step_cells]; exact hq)
      have hn0 : (M.step p).cells.getD q 0 = n0 := by rw [MS.step_cells, ← hget, MS.get, if_pos hc, Int.toNat_natCast]
      rw [hn0] at hcW
      have hB := bo.keeps kW hnew
      have hB1 := bn.keeps kW hnew1
      have hB2 := bw.keeps kW hnew2
      by_cases he : n0 = o
      · subst he
        refine (cl_swap_yes W gc q (w.heap.size + 1 + 1) w.heap.size (w.heap.size + 1) n0 n false hcW.1 hcW.2 (by rw [hB.cell]; rfl) (by rw [hB1.cell]; rfl) (by rw [hB2.cell]; rfl) (hB2.frozen 0) (by omega) (by omega)).mono ?_
        rintro e w' ⟨rfl, rfl⟩
        have hp : M.swap p q n0 n = { (M.step p) with cells := (M.step p).cells.set q n } := by
          unfold MS.swap MS.put
          rw [if_pos ⟨hc, hget⟩, if_pos (by rw [MS.step_has]; exact hc), Int.toNat_natCast]
        have hs : M.swaps q n0 = true := by simp [MS.swaps, hc, hget]
        rw [hp, hs]
        have hB' := ((hB2.set 0 (.bool true)).other (a := ⟨gc, q, none⟩) (by show w.heap.size + 1 + 1 ≠ gc; omega) (.int .i64 n)).drew
        exact ⟨rfl, ((hW.other hnew2 _).storeC q _).drew, (((kA0.trans' kW).set (w.heap.size + 1 + 1) 0 (.inr (by omega)) _).set gc q (.inl (.inr (.inl rfl))) _).drew, by rw [hB'.cell]; rfl, hB'.frozen 0⟩
      · refine (cl_swap_no W gc q (w.heap.size + 1 + 1) w.heap.size (w.heap.size + 1) n0 o false (by simpa using he) hcW.1 (by rw [hB.cell]; rfl) (by rw [hB2.cell]; rfl) (hB2.frozen 0)).mono ?_
        rintro e w' ⟨rfl, rfl⟩
        have hp : M.swap p q o n = M.step p := by
          unfold MS.swap
          rw [if_neg (by rw [hget]; exact fun hh => he hh.2)]
        have hs : M.swaps q o = false := by simp [MS.swaps, hget, he]
        rw [hp, hs]
        have hB' := (hB2.set 0 (.bool false)).drew
        exact ⟨rfl, (hW.other hnew2 _).drew, ((kA0.trans' kW).set (w.heap.size + 1 + 1) 0 (.inr (by omega)) _).drew, by rw [hB'.cell]; rfl, hB'.frozen 0⟩)
    have HA := Lib.hid ACC
    clear ACC h hget hput hc hA0 kA0 bo bn bw
    go_enter Try.func94, Try.ntmps94
    go_wp2_with fail
    refine HA.out.mono ?_
    rintro e w' ⟨rfl, hM, hK, hc1, hf1⟩
    go_wp2
    have hc2 := World.cell?_setCell_same w' ⟨w.heap.size + 1 + 1, 0, none⟩ (.bool (M.swaps q o)) hc1
    exact bodyPost_ret (v := .bool (M.swaps q o)) (by simp [results, Try.results94, go_sem, hc2]) rfl ⟨rfl, hM.other hnew2 _, hK.set (w.heap.size + 1 + 1) 0 (.inr (by omega)) _⟩
  · have hs : M.swaps c o = false := by simp [MS.swaps, hc]
    have hp : M.swap p c o n = M.step p := by unfold MS.swap; rw [if_neg (fun hh => hc hh.1)]
    rw [hs, hp]
    have ACC := mach_access_out hA0 p c (.func (Fn.func 99) #[] #[.pointer (some ⟨w.heap.size, 0, none⟩), .pointer (some ⟨w.heap.size + 1 + 1, 0, none⟩), .pointer (some ⟨w.heap.size + 1, 0, none⟩)]) hc
    have HA := Lib.hid ACC
    have HB := Lib.hid bw
    have HK := Lib.hid kA0
    clear ACC h hc hs hp hA0 kA0 bo bn bw
    go_enter Try.func94, Try.ntmps94
    go_wp2_with fail
    refine HA.out.mono ?_
    rintro e w' ⟨rfl, hM, hK⟩
    have hB := HB.out.keeps hK hnew2
    have hc1 : w'.cell? ⟨w.heap.size + 1 + 1, 0, none⟩ = some (.bool false) := by rw [hB.cell]; rfl
    have hf1 := hB.frozen 0
    go_wp2
    have hc2 := World.cell?_setCell_same w' ⟨w.heap.size + 1 + 1, 0, none⟩ (.bool false) hc1
    exact bodyPost_ret (v := .bool false) (by simp [results, Try.results94, go_sem, hc2]) rfl ⟨rfl, hM.other hnew2 _, (HK.out.trans' hK).set (w.heap.size + 1 + 1) 0 (.inr (by omega)) _⟩

end Go.Proofs.Ytjfenjnnpikkdaa
/- Package machine: New, Cells, Steps, Len. -/
namespace Go.Proofs.Ytjfenjnnpikkdaa
set_option maxRecDepth 100000
open Go.RowKit

theorem infoIntM : (Try.prog.info? 3).map (fun i => (i.zero, i.size, i.bytes)) = some (some (.int .i64 0), 1, 8) := by kernel_rfl

set_option maxHeartbeats 800000 in
theorem mach_steps {w : World} {bm : Nat} {vc vs : Value} {M : MS} (h : Mach w bm vc vs M) (p : Int) :
    Calls Try.prog 50 #[.pointer (some ⟨bm, 0, none⟩), .int .i64 p] w fun e w' =>
      e = .returned (.int .i64 (M.stepsOf p)) ∧ w' = w := by
  have h1 : w.cell? ⟨bm, 1, none⟩ = some vs := by rw [h.blk.cell]; rfl
  have hls := h.lenS
  by_cases hp : 0 ≤ p ∧ p < M.steps.length
  · have hso : M.stepsOf p = M.steps.getD p.toNat 0 := by unfold MS.stepsOf; rw [if_pos hp]
    obtain ⟨gs, cs, q, s, rfl, hq, rfl, hs, hsf, hsl, hsb, hst⟩ := h.viewS hp
    have hsv : M.stepsOf q = s := by
      have := World.ownsRow.cellAt h.steps q (by omega)
      rw [ints_get _ _ hq, hs] at this
      rw [hso]
      simp at this
      simp [this]
    rw [hsv]
    clear h hst hso hsv
    go_enter Try.func50, Try.ntmps50
    go_wp2
    go_ret
    exact ⟨rfl, rfl⟩
  · have hso : M.stepsOf p = 0 := by unfold MS.stepsOf; rw [if_neg hp]
    rw [hso]
    obtain ⟨as0, cs, rfl⟩ := h.ofLenS
    clear h hso
    have hp' : p < 0 ∨ (¬ p < 0 ∧ ¬ p < M.steps.length) := by omega
    clear hp
    rcases hp' with hp | ⟨hp, hp2⟩
    all_goals
      go_enter Try.func50, Try.ntmps50
      go_wp2
      go_ret
      exact ⟨rfl, rfl⟩

theorem ints_replicate (n : Nat) (z : Int) : ints (List.replicate n z) = List.replicate n (.int .i64 z) := by simp [ints]

theorem mach_made (w : World) (n : Nat) (hn : n ≤ 17592186044416) : Mach ((w.alloc (.cells (madeCells #[.int .i64 0] n) 3)).alloc (.cells #[.slice none 0 0, .slice (some ⟨w.heap.size, 0, none⟩) n n] 108)) (w.heap.size + 1) (.slice none 0 0) (.slice (some ⟨w.heap.size, 0, none⟩) n n) ⟨[], List.replicate n 0⟩ := by
  have hm : n ≤ maxLen := by simp only [maxLen]; omega
  refine ⟨?_, ⟨by simp [ints], .inl ⟨rfl, rfl⟩⟩, ?_, by intro k hk; simp [Value.ownBlock] at hk, by simp, by simpa using hn⟩
  · have := Blk.new (w.alloc (.cells (madeCells #[.int .i64 0] n) 3)) #[.slice none 0 0, .slice (some ⟨w.heap.size, 0, none⟩) n n] 108
    simpa using this
  · rw [ints_replicate, List.length_replicate]
    exact own_keeps (F := fun _ => False) (own_made w _ _ n hm) ((Keeps.refl _ _).alloc _) (by simp)

/-- What New leaves. -/
def NewPost (w : World) (n : Int) (e : Ending) (w' : World) : Prop :=
  ∃ bm vs, e = .returned (.pointer (some ⟨bm, 0, none⟩)) ∧ Mach w' bm (.slice none 0 0) vs ⟨[], List.replicate n.toNat 0⟩ ∧ Keeps (fun _ => False) w w' ∧ (∀ k, machF bm (.slice none 0 0) vs k → w.heap.size ≤ k)
/-- What Cells leaves. -/
def CellsPost (w : World) (bm : Nat) (vc vs : Value) (M : MS) (n : Nat) (e : Ending) (w' : World) : Prop :=
  e = .returned (.int .i64 M.cells.length) ∧ ∃ vc', Mach w' bm vc' vs ⟨M.cells ++ List.replicate n 0, M.steps⟩ ∧ Keeps (machF bm vc vs) w w' ∧ (∀ k, machF bm vc' vs k → machF bm vc vs k ∨ w.heap.size ≤ k)

theorem new_fin (w : World) (q : Nat) (hq : q ≤ 1099511627776) (n : Int) (hn : n.toNat = q) : NewPost w n (Ending.returned (.pointer (some ⟨w.heap.size + 1, 0, none⟩))) ((w.alloc (.cells (madeCells #[.int .i64 0] q) 3)).alloc (.cells #[.slice none 0 0, .slice (some ⟨w.heap.size, 0, none⟩) q q] 108)) := by
  subst hn
  refine ⟨_, _, rfl, mach_made w _ (by omega), ((Keeps.refl _ w).alloc _).alloc _, ?_⟩
  rintro k (rfl | hk | hk)
  · omega
  · simp [Value.ownBlock] at hk
  · simp [Value.ownBlock] at hk
    omega

set_option maxHeartbeats 800000 in
theorem mach_new (w : World) (n : Int) (hn : n ≤ 1099511627776) :
    Calls Try.prog 38 #[.int .i64 n] w (NewPost w n) := by
  by_cases h0 : n < 0
  · have hmk := run_make_row' (P := Try.prog) 22 3 (.int .i64 0) 8 Try.underlying22 infoIntM rfl .i64 .i64 0 (by omega) (by omega)
    have HF := Lib.hid (new_fin w 0 (by omega) n (by omega))
    simp only [Int.natCast_zero] at hmk
    go_enter Try.func38, Try.ntmps38
    go_wp2
    go_ret
    exact HF.out
  · obtain ⟨q, rfl⟩ := Int.eq_ofNat_of_zero_le (show 0 ≤ n by omega)
    have hmk := run_make_row' (P := Try.prog) 22 3 (.int .i64 0) 8 Try.underlying22 infoIntM rfl .i64 .i64 q (by omega) (by omega)
    have HF := Lib.hid (new_fin w q (by omega) q (by omega))
    go_enter Try.func38, Try.ntmps38
    go_wp2
    go_ret
    exact HF.out

theorem cells_fin (w w1 : World) (bm : Nat) (vc vs : Value) (M : MS) (h : Mach w bm vc vs M) (q : Nat) (hn : M.cells.length ≤ 1099511627776) (hq : q ≤ 1048576) (v' : Value)
    (hown : Own w1 3 1 v' (M.cells.length + q) (ints M.cells ++ List.replicate q (.int .i64 0))) (hg : w.grownBy w1 vc.ownBlock) (hat : v'.ownBlock = vc.ownBlock ∨ v'.ownBlock = some w.heap.size) :
    CellsPost w bm vc vs M q (.returned (.int .i64 M.cells.length)) (w1.setCell ⟨bm, 0, none⟩ v') := by
  have kg : Keeps (machF bm vc vs) w w1 := (Keeps.refl _ w).grown hg (fun k hk => .inl (.inr (.inl hk)))
  have hb1 : Blk w1 bm #[vc, vs] 108 := (hg.block bm h.blk.lt (fun e => h.neC e.symm)).trans h.blk
  have hne : v'.ownBlock ≠ some bm := own_blk_ne hown hb1 (by decide)
  refine ⟨rfl, v', ⟨?_, ?_, ?_, ?_, ?_, h.lenS⟩, kg.set bm 0 (.inl (.inl rfl)) _, ?_⟩
  · simpa using hb1.set 0 v'
  · have := own_keeps hown (Keeps.one w1 ⟨bm, 0, none⟩ v') (fun b hb e => hne (by rw [hb]; exact congrArg some e))
    simpa [ints] using this
  · have h1 : Own w1 3 1 vs M.steps.length (ints M.steps) := own_keeps (F := fun k => vc.ownBlock = some k) h.steps ((Keeps.refl _ w).grown hg (fun k hk => .inl hk)) (fun b hb e => h.apart b e hb)
    exact own_keeps h1 (Keeps.one w1 ⟨bm, 0, none⟩ v') (fun b hb e => h.neS (by rw [hb]; exact congrArg some e))
  · intro k hk
    rcases hat with e | e
    · exact h.apart k (e ▸ hk)
    · intro hs
      have := own_lt h.steps hs
      rw [e] at hk
      simp at hk
      omega
  · simp only [List.length_append, List.length_replicate]
    omega
  · rintro k (rfl | hk | hk)
    · exact .inl (.inl rfl)
    · rcases hat with e | e
      · exact .inl (.inr (.inl (e ▸ hk)))
      · rw [e] at hk
        simp at hk
        omega
    · exact .inl (.inr (.inr hk))

set_option maxHeartbeats 800000 in
theorem mach_cells {w : World} {bm : Nat} {vc vs : Value} {M : MS} (h : Mach w bm vc vs M) (n : Int) (hn : M.cells.length ≤ 1099511627776) :
    Calls Try.prog 39 #[.pointer (some ⟨bm, 0, none⟩), .int .i64 n] w (CellsPost w bm vc vs M (if n ≤ 1048576 then n.toNat else 0)) := by
  have h0 : w.cell? ⟨bm, 0, none⟩ = some vc := by rw [h.blk.cell]; rfl
  have f0 := h.blk.frozen 0
  obtain ⟨ac, cc, hvc⟩ := h.ofLenC
  subst hvc
  by_cases hc : 1 ≤ n ∧ n ≤ 1048576
  · obtain ⟨q, rfl⟩ := Int.eq_ofNat_of_zero_le (show 0 ≤ n by omega)
    rw [if_pos hc.2, Int.toNat_natCast]
    obtain ⟨c1, c2⟩ := hc
    have hq0 : 1 ≤ q := by omega
    have H := Lib.hid h
    have hB := Lib.hid h.cells
    have hne : some bm ≠ (Value.slice ac M.cells.length cc).ownBlock := fun e => h.neC e.symm
    have HN := Lib.hid hne
    clear h hne
    go_enter Try.func39, Try.ntmps39
    go_wp2_with (at_builtin; refine wpList_append_zeros_own w rfl _ _ 22 3 3 rfl .i64 .i64 (.int .i64 0) 8 Try.underlying22 Try.underlying3 infoIntM rfl rfl (by omega) (.slice ac M.cells.length cc) _ _ rfl hB.out q rfl (by omega) (by omega) ?_; intro v' w1 hown hgrow hat; obtain ⟨a1, c1, rfl⟩ := own_shape hown; have hc1 := hgrow.cell h0 HN.out; have hf1 := (World.frozen?_of_block (a := ⟨bm, 0, none⟩) (hgrow.block bm (World.block_lt_of_cell? _ _ h0) HN.out)).trans f0)
    go_ret
    exact cells_fin w w1 bm _ vs M H.out q hn (by omega) _ hown hgrow hat
  · have e0 : (if n ≤ 1048576 then n.toNat else 0) = 0 := by split <;> omega
    rw [e0]
    have fin : CellsPost w bm (.slice ac M.cells.length cc) vs M 0 (.returned (.int .i64 M.cells.length)) w := by
      refine ⟨rfl, _, ?_, Keeps.refl _ _, fun k hk => .inl hk⟩
      simpa using h
    have HF := Lib.hid fin
    have hn' : ¬ 1 ≤ n ∨ (1 ≤ n ∧ ¬ n ≤ 1048576) := by omega
    clear h fin hc e0
    rcases hn' with hn1 | ⟨hn1, hn2⟩
    all_goals
      go_enter Try.func39, Try.ntmps39
      go_wp2
      go_ret
      exact HF.out
end Go.Proofs.Ytjfenjnnpikkdaa
