/-
  Package machine: the walks of its methods.
-/
import Derived.Test.YtjbmfmhibmnaiaaMach
namespace Go.Proofs.Ytjbmfmhibmnaiaa
set_option linter.unusedVariables false
set_option linter.unusedSimpArgs false
open Go.RowKit

theorem hmf : ∀ (fn : Fn) (first cap : Array Value) (w : World), (Instr.makeFunc fn first cap).run Try.prog w = .ok (.func fn first cap) w := fun _ _ _ _ => rfl

/-- What the walks ask of a process that is there. -/
theorem Mach.viewS {w : World} {bm : Nat} {vc vs : Value} {M : MS} (h : Mach w bm vc vs M) {p : Int} (hp : 0 ≤ p ∧ p < M.steps.length) :
    ∃ gs cs q s, p = (q : Nat) ∧ q < M.steps.length ∧ vs = .slice (some ⟨gs, 0, none⟩) M.steps.length cs ∧ w.cell? ⟨gs, q, none⟩ = some (.int .i64 s) ∧ w.frozen? ⟨gs, q, none⟩ = false ∧ gs < w.heap.size ∧ bm ≠ gs ∧ M.step p = { M with steps := M.steps.set q (wrap64 (s + 1)) } := by
  obtain ⟨q, rfl⟩ := Int.eq_ofNat_of_zero_le hp.1
  have hq : q < M.steps.length := by have := hp.2; omega
  obtain ⟨gs, cs, rfl, _⟩ := own_open h.steps (by omega)
  refine ⟨gs, cs, q, M.steps.getD q 0, rfl, hq, rfl, ?_, World.ownsRow.frozenAt h.steps q, own_lt h.steps rfl, fun e => h.neS (by simp [Value.ownBlock, e]), ?_⟩
  · rw [World.ownsRow.cellAt h.steps q (by omega), ints_get _ _ hq]
  · unfold MS.step
    rw [if_pos hp]
    simp
theorem Mach.viewC {w : World} {bm : Nat} {vc vs : Value} {M : MS} (h : Mach w bm vc vs M) {c : Int} (hp : M.has c) :
    ∃ gc cc q n0, c = (q : Nat) ∧ q < M.cells.length ∧ vc = .slice (some ⟨gc, 0, none⟩) M.cells.length cc ∧ w.cell? ⟨gc, q, none⟩ = some (.int .i64 n0) ∧ w.frozen? ⟨gc, q, none⟩ = false ∧ gc < w.heap.size ∧ bm ≠ gc ∧ M.get c = n0 ∧ ∀ n, M.put c n = { M with cells := M.cells.set q n } := by
  obtain ⟨q, rfl⟩ := Int.eq_ofNat_of_zero_le hp.1
  have hq : q < M.cells.length := by have := hp.2; omega
  obtain ⟨gc, cc, rfl, _⟩ := own_open h.cells (by omega)
  refine ⟨gc, cc, q, M.cells.getD q 0, rfl, hq, rfl, ?_, World.ownsRow.frozenAt h.cells q, own_lt h.cells rfl, fun e => h.neC (by simp [Value.ownBlock, e]), ?_, ?_⟩
  · rw [World.ownsRow.cellAt h.cells q (by omega), ints_get _ _ hq]
  · unfold MS.get
    rw [if_pos hp]
    simp
  · intro n
    unfold MS.put
    rw [if_pos hp]
    simp


theorem Mach.stepStore {w : World} {bm : Nat} {vc : Value} {gs cs : Nat} {M : MS} {n : Nat} (h : Mach w bm vc (.slice (some ⟨gs, 0, none⟩) n cs) M) (i : Nat) (v : Int) :
    Keeps (machF bm vc (.slice (some ⟨gs, 0, none⟩) n cs)) w (w.setCell ⟨gs, i, none⟩ (.int .i64 v)) :=
  (Keeps.refl _ w).setCell (.inl (.inr (.inr rfl))) _

set_option maxHeartbeats 800000 in
theorem mach_access_out {w : World} {bm : Nat} {vc vs : Value} {M : MS} (h : Mach w bm vc vs M) (p c : Int) (f : Value) (hc : ¬ M.has c) :
    Calls Try.prog 32 #[.pointer (some ⟨bm, 0, none⟩), .int .i64 p, .int .i64 c, f] w fun e w' =>
      e = .returned (.tuple #[]) ∧ Mach w' bm vc vs (M.step p) ∧ Keeps (machF bm vc vs) w w' := by
  have h0 : w.cell? ⟨bm, 0, none⟩ = some vc := by rw [h.blk.cell]; rfl
  have h1 : w.cell? ⟨bm, 1, none⟩ = some vs := by rw [h.blk.cell]; rfl
  have hb := h.blk.lt
  have hlc := h.lenC
  have hls := h.lenS
  have hc' : ¬ 0 ≤ c ∨ (0 ≤ c ∧ ¬ c < M.cells.length) := by unfold MS.has at hc; omega
  clear hc
  by_cases hp : 0 ≤ p ∧ p < M.steps.length
  · obtain ⟨gs, cs, q, s, rfl, hq, rfl, hs, hsf, hsl, hsb, hst⟩ := h.viewS hp
    obtain ⟨ac, cc, rfl⟩ := h.ofLenC
    rw [hst]
    have H := Lib.hid h
    clear h hst
    rcases hc' with hc | ⟨hc, hc2⟩
    all_goals
      go_enter Try.func32, Try.ntmps32
      go_wp2
      go_end0
      exact ⟨rfl, H.out.storeS _ _, H.out.stepStore _ _⟩
  · have hst : M.step p = M := by unfold MS.step; rw [if_neg hp]
    obtain ⟨ac, cc, rfl⟩ := h.ofLenC
    obtain ⟨as0, cs, rfl⟩ := h.ofLenS
    rw [hst]
    have H := Lib.hid h
    clear h hst
    have hp' : ¬ 0 ≤ p ∨ (0 ≤ p ∧ ¬ p < M.steps.length) := by omega
    clear hp
    rcases hp' with hp | ⟨hp, hp2⟩ <;> rcases hc' with hc | ⟨hc, hc2⟩
    all_goals
      go_enter Try.func32, Try.ntmps32
      go_wp2
      go_end0
      exact ⟨rfl, H.out, Keeps.refl _ _⟩

set_option maxHeartbeats 800000 in
theorem mach_access_in {w : World} {bm : Nat} {vc vs : Value} {M : MS} (h : Mach w bm vc vs M) (p : Int) (gc nc cc q : Nat) (hvc : vc = .slice (some ⟨gc, 0, none⟩) nc cc) (hq : q < M.cells.length) (k : Nat) (caps : Array Value) (R : World → Prop)
    (hk : ∀ args W, (callFunc k args).run Try.prog W = .ok (.enter k args) W)
    (hcl : ∀ W, Mach W bm vc vs (M.step p) → Keeps (machF bm vc vs) w W → Calls Try.prog k (#[.pointer (some ⟨gc, q, none⟩)] ++ caps) W fun e w' => e = .returned (.tuple #[]) ∧ R w') :
    Calls Try.prog 32 #[.pointer (some ⟨bm, 0, none⟩), .int .i64 p, .int .i64 q, .func (Fn.func k) #[] caps] w fun e w' =>
      e = .returned (.tuple #[]) ∧ R w' := by
  have h0 : w.cell? ⟨bm, 0, none⟩ = some vc := by rw [h.blk.cell]; rfl
  have h1 : w.cell? ⟨bm, 1, none⟩ = some vs := by rw [h.blk.cell]; rfl
  have hb := h.blk.lt
  have hlc := h.lenC
  have hls := h.lenS
  by_cases hp : 0 ≤ p ∧ p < M.steps.length
  · obtain ⟨gs, cs, r, s, rfl, hr, rfl, hs, hsf, hsl, hsb, hst⟩ := h.viewS hp
    have hcl' := hcl (w.setCell ⟨gs, r, none⟩ (.int .i64 (wrap64 (s + 1)))) (by rw [hst]; exact h.storeS _ _) (h.stepStore _ _)
    obtain ⟨a1, c1, hvc'⟩ := h.ofLenC
    rw [hvc] at hvc'
    injection hvc' with e1 e2 e3
    subst e1 e2
    subst hvc
    have H := Lib.hid h
    have HC := Lib.hid hcl'
    clear h hst hcl hcl'
    go_enter Try.func32, Try.ntmps32
    go_wp2_with fail
    refine HC.out.mono ?_
    rintro e w' ⟨rfl, hR⟩
    go_wp2
    go_end0
    exact ⟨rfl, hR⟩
  · have hst : M.step p = M := by unfold MS.step; rw [if_neg hp]
    have hcl' := hcl w (by rw [hst]; exact h) (Keeps.refl _ _)
    obtain ⟨a1, c1, hvc'⟩ := h.ofLenC
    rw [hvc] at hvc'
    injection hvc' with e1 e2 e3
    subst e1 e2
    subst hvc
    obtain ⟨as0, cs, rfl⟩ := h.ofLenS
    have HC := Lib.hid hcl'
    clear h hst hcl hcl'
    have hp' : ¬ 0 ≤ p ∨ (0 ≤ p ∧ ¬ p < M.steps.length) := by omega
    clear hp
    rcases hp' with hp | ⟨hp, hp2⟩
    all_goals
      go_enter Try.func32, Try.ntmps32
      go_wp2_with fail
      refine HC.out.mono ?_
      rintro e w' ⟨rfl, hR⟩
      go_wp2
      go_end0
      exact ⟨rfl, hR⟩

/-! The closures. -/
theorem call_read (args : Array Value) (W : World) : (callFunc 34 args).run Try.prog W = .ok (.enter 34 args) W := by
  go_simp
theorem cl_read (W : World) (gc q gn : Nat) (c z : Int) (hc : W.cell? ⟨gc, q, none⟩ = some (.int .i64 c)) (hn : W.cell? ⟨gn, 0, none⟩ = some (.int .i64 z)) (hf : W.frozen? ⟨gn, 0, none⟩ = false) :
    Calls Try.prog 34 #[.pointer (some ⟨gc, q, none⟩), .pointer (some ⟨gn, 0, none⟩)] W fun e w' => e = .returned (.tuple #[]) ∧ w' = W.setCell ⟨gn, 0, none⟩ (.int .i64 c) := by
  go_enter Try.func34, Try.ntmps34
  go_wp2
  go_end0
  exact ⟨rfl, rfl⟩
theorem cl_write (W : World) (gc q gn : Nat) (c z : Int) (hc : W.cell? ⟨gc, q, none⟩ = some (.int .i64 c)) (hf : W.frozen? ⟨gc, q, none⟩ = false) (hn : W.cell? ⟨gn, 0, none⟩ = some (.int .i64 z)) :
    Calls Try.prog 36 #[.pointer (some ⟨gc, q, none⟩), .pointer (some ⟨gn, 0, none⟩)] W fun e w' => e = .returned (.tuple #[]) ∧ w' = W.setCell ⟨gc, q, none⟩ (.int .i64 z) := by
  go_enter Try.func36, Try.ntmps36
  go_wp2
  go_end0
  exact ⟨rfl, rfl⟩
theorem cl_add (W : World) (gc q gn gw : Nat) (c z y : Int) (hc : W.cell? ⟨gc, q, none⟩ = some (.int .i64 c)) (hf : W.frozen? ⟨gc, q, none⟩ = false) (hn : W.cell? ⟨gn, 0, none⟩ = some (.int .i64 z)) (hw : W.cell? ⟨gw, 0, none⟩ = some (.int .i64 y)) (hwf : W.frozen? ⟨gw, 0, none⟩ = false) (hne : gw ≠ gc) (hne2 : gw ≠ gn) :
    Calls Try.prog 35 #[.pointer (some ⟨gc, q, none⟩), .pointer (some ⟨gw, 0, none⟩), .pointer (some ⟨gn, 0, none⟩)] W fun e w' => e = .returned (.tuple #[]) ∧ w' = ((W.setCell ⟨gw, 0, none⟩ (.int .i64 c)).setCell ⟨gc, q, none⟩ (.int .i64 (wrap64 (c + z)))).drew := by
  go_enter Try.func35, Try.ntmps35
  go_wp2
  go_region
  all_goals
    go_wp2
    go_end0
    exact ⟨rfl, rfl⟩
theorem cl_swap_yes (W : World) (gc q gi go_ gn : Nat) (c z : Int) (b : Bool) (hc : W.cell? ⟨gc, q, none⟩ = some (.int .i64 c)) (hf : W.frozen? ⟨gc, q, none⟩ = false) (ho : W.cell? ⟨go_, 0, none⟩ = some (.int .i64 c)) (hn : W.cell? ⟨gn, 0, none⟩ = some (.int .i64 z)) (hw : W.cell? ⟨gi, 0, none⟩ = some (.bool b)) (hwf : W.frozen? ⟨gi, 0, none⟩ = false) (hne : gi ≠ gc) (hne2 : gi ≠ gn) :
    Calls Try.prog 33 #[.pointer (some ⟨gc, q, none⟩), .pointer (some ⟨go_, 0, none⟩), .pointer (some ⟨gi, 0, none⟩), .pointer (some ⟨gn, 0, none⟩)] W fun e w' => e = .returned (.tuple #[]) ∧ w' = ((W.setCell ⟨gi, 0, none⟩ (.bool true)).setCell ⟨gc, q, none⟩ (.int .i64 z)).drew := by
  have hcc : (c == c) = true := by simp
  go_enter Try.func33, Try.ntmps33
  go_wp2
  go_region
  all_goals
    go_wp2
    go_end0
    exact ⟨rfl, rfl⟩
theorem cl_swap_no (W : World) (gc q gi go_ gn : Nat) (c d : Int) (b : Bool) (hcd : (c == d) = false) (hc : W.cell? ⟨gc, q, none⟩ = some (.int .i64 c)) (ho : W.cell? ⟨go_, 0, none⟩ = some (.int .i64 d)) (hw : W.cell? ⟨gi, 0, none⟩ = some (.bool b)) (hwf : W.frozen? ⟨gi, 0, none⟩ = false) :
    Calls Try.prog 33 #[.pointer (some ⟨gc, q, none⟩), .pointer (some ⟨go_, 0, none⟩), .pointer (some ⟨gi, 0, none⟩), .pointer (some ⟨gn, 0, none⟩)] W fun e w' => e = .returned (.tuple #[]) ∧ w' = (W.setCell ⟨gi, 0, none⟩ (.bool false)).drew := by
  go_enter Try.func33, Try.ntmps33
  go_wp2
  go_region
  all_goals
    go_wp2
    go_end0
    exact ⟨rfl, rfl⟩
end Go.Proofs.Ytjbmfmhibmnaiaa
