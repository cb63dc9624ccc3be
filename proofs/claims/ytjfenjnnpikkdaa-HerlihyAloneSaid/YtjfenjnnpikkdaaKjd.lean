/-
  Package herlihy: an object in memory, made of its parts; how it begins.
-/
import Derived.Test.YtjfenjnnpikkdaaKd
import Derived.Test.YtjfenjnnpikkdaaKjc
set_option linter.unusedVariables false
set_option linter.unusedSimpArgs false
namespace Go.Proofs.Ytjfenjnnpikkdaa
set_option maxRecDepth 100000
open Go.RowKit

abbrev newHP : HProc := ⟨0, 0, .idle, 0, 0, 0, 0, 0, 0⟩
abbrev node0 (s : St) (pl : Nat) : HNode := ⟨0, 0, ⟨0, 0, 0⟩, pl, false, s, 0⟩
/-- Without a node. -/
abbrev heNone : HS := ⟨[], [], fun _ => 0, fun _ => 0, fun _ => newHP⟩
/-- How it begins. -/
def heZero (n : Nat) (s : St) : HS := ⟨[node0 s 1], [0], fun _ => 0, fun _ => 0, fun _ => newHP⟩
theorem zero_nd (n : Nat) (s : St) (i : Nat) : (heZero n s).nd i = if i = 0 then node0 s 1 else noNode := by
  unfold heZero HS.nd
  rcases i with _ | i
  · rfl
  · simp
theorem HG.zero {n : Nat} (hn : 0 < n) (s : St) : HG n s (heZero n s) := by
  have pl : ∀ i, ((heZero n s).nd i).place ≠ 0 → i = 0 := fun i h => by
    rw [zero_nd] at h
    by_cases e : i = 0
    · exact e
    · rw [if_neg e] at h; exact absurd rfl h
  have dn : ∀ i, ((heZero n s).nd i).done = false := fun i => by
    rw [zero_nd]; split <;> rfl
  have hch : ∀ k : Nat, (heZero n s).chain[k]? = if k = 0 then some 0 else none := fun k => by
    rcases k with _ | k <;> simp [heZero]
  refine ⟨hn, rfl, by simp [heZero], fun x hx => ?_, rfl, fun i hi => ?_, fun j k x y hjk hx hy hp => ?_, fun i h0 hi => absurd (pl i hi) (by omega), fun i h0 hi => (by rw [dn] at hi; cases hi), rfl, fun k i hk => ?_, fun q hq => ?_, fun q hq => ?_, ?_, fun p hp => ?_, fun p hp hb => absurd rfl hb, fun i h0 h1 => ?_, fun p hp => trivial⟩
  · have : x = 0 := by simpa [heZero] using hx
    subst this; simp [heZero]
  · have := pl i hi; subst this; rfl
  · rw [hch] at hx hy
    have h1 : j = 0 := Classical.byContradiction fun h => by rw [if_neg h] at hx; cases hx
    subst h1
    have : x = 0 := by simpa using hx.symm
    subst this
    rw [zero_nd]; simp
  · rw [hch] at hk; simp at hk
  · show ((heZero n s).nd 0).place ≠ 0
    rw [zero_nd]; simp
  · simp [heZero]
  · exact LogOK.nil
  · simp [heZero, HS.log, logGo, countL]
  · simp [heZero] at h1; omega
theorem HSz.zero {n : Nat} {s : St} (hs : s.L.length ≤ 300) : HSz (heZero n s) 0 := by
  refine ⟨by simp [heZero], by simp [heZero], fun p => by simp [heZero], fun i => ?_⟩
  rw [zero_nd]
  split
  · exact hs
  · simp [noNode]

structure HNewParts (w : World) (base be n : Nat) (bm : Nat) (vc vs : Value) (steps : List Int) (vp vL : Value) (pa : Nat → Nat) (s : St) : Prop where
  small : 0 < n ∧ n ≤ 64
  eng : Blk w be #[.int .i64 s.kind, vL, .bool s.isSealed, .int .i64 s.to, ptrV bm, .int .i64 0, .int .i64 n, vp, .slice none 0 0] 95
  engG : base ≤ be
  mach : Mach w bm vc vs ⟨List.replicate (2 * n) 0, steps⟩
  machG : ∀ k, machF bm vc vs k → base ≤ k
  procs : Own w 96 1 vp n ((List.range n).map fun p => ptrV (pa p))
  procsG : Fresh base vp
  proc : ∀ p, p < n → Blk w (pa p) (hprocV be p newHP 0 .nilFunc) 98
  procG : ∀ p, p < n → base ≤ pa p
  inj : ∀ p q, p < n → q < n → pa p = pa q → p = q
  rdL : Rd w vL s.L
  ltL : 0 < s.L.length → ∀ k, vL.ownBlock = some k → k < base

open Classical in
noncomputable def newOwnH (be n bm : Nat) (vc vs vp : Value) (pa : Nat → Nat) (k : Nat) : Option HTag :=
  if machF bm vc vs k then some .mach
  else if h : ∃ q, q < n ∧ pa q = k then some (.proc h.choose)
  else if k = be ∨ vp.ownBlock = some k then some .eng
  else none

theorem HNewParts.rep {w : World} {base be n bm : Nat} {vc vs vp vL : Value} {steps : List Int} {pa : Nat → Nat} {s : St} (h : HNewParts w base be n bm vc vs steps vp vL pa s) :
    HRep w base be ⟨bm, vc, vs, steps, vp, .slice none 0 0, vL, pa, fun _ => 0, fun _ => 0, newOwnH be n bm vc vs vp pa⟩ n s heNone := by
  have pB : ∀ {b : Nat} {cs : Array Value} {T : TypeId}, Blk w b cs T → T ≠ 98 → ¬ ∃ q, q < n ∧ pa q = b := by
    rintro b cs T hb h1 ⟨q, hq, rfl⟩
    exact blk_ne hb (h.proc q hq) h1 rfl
  generalize hown : newOwnH be n bm vc vs vp pa = own
  have tM : ∀ k, machF bm vc vs k → own k = some .mach := fun k hk => by subst hown; unfold newOwnH; rw [if_pos hk]
  have tP : ∀ p, p < n → own (pa p) = some (.proc p) := fun p hp => by
    subst hown; unfold newOwnH
    have hx : ∃ q, q < n ∧ pa q = pa p := ⟨p, hp, rfl⟩
    rw [if_neg (h.mach.notF (h.proc p hp) (by decide) (by decide)), dif_pos hx]
    have := hx.choose_spec
    rw [h.inj _ p this.1 hp this.2]
  have tE : ∀ k, ¬ machF bm vc vs k → (¬ ∃ q, q < n ∧ pa q = k) → (k = be ∨ vp.ownBlock = some k) → own k = some .eng := fun k h1 h3 h4 => by
    subst hown; unfold newOwnH; rw [if_neg h1, dif_neg h3, if_pos h4]
  have hfresh : ∀ k, own k ≠ none → base ≤ k ∧ k < w.heap.size := by
    intro k hk
    subst hown
    unfold newOwnH at hk
    split at hk
    · rename_i h1; exact ⟨h.machG k h1, h.mach.lt h1⟩
    · split at hk
      · rename_i h1
        obtain ⟨q, hq, rfl⟩ := h1
        exact ⟨h.procG q hq, (h.proc q hq).lt⟩
      · split at hk
        · rename_i h1
          rcases h1 with h1 | h1
          · subst h1; exact ⟨h.engG, h.eng.lt⟩
          · exact ⟨h.procsG k h1, own_lt h.procs h1⟩
        · simp at hk
  have ecells : cellsH n heNone = List.replicate (2 * n) 0 := by
    apply List.ext_getElem?
    intro i
    unfold cellsH
    by_cases hi : i < 2 * n
    · simp [hi, cval]
    · simp [hi]
  refine ⟨h.small, hfresh, h.eng, tE be (h.mach.notF h.eng (by decide) (by decide)) (pB h.eng (by decide)) (.inl rfl), h.rdL, fun h0 k hk => .inr (h.ltL h0 k hk), by rw [ecells]; exact h.mach, tM, h.procs, ?_, ?_, World.ownsRow_nil .., by simp [Value.ownBlock], fun i hi => absurd hi (by simp), fun i j hi => absurd hi (by simp)⟩
  · refine fun k hk => tE k (h.mach.notO h.procs (by decide) (by decide) k hk) ?_ (.inr hk)
    rintro ⟨q, hq, rfl⟩
    exact own_blk_ne h.procs (h.proc q hq) (by decide) hk
  · exact fun p hp => ⟨tP p hp, h.proc p hp⟩
end Go.Proofs.Ytjfenjnnpikkdaa
/- Package herlihy: New. -/
namespace Go.Proofs.Ytjfenjnnpikkdaa
set_option maxRecDepth 100000
open Go.RowKit
open Go.Proofs.YtjfenjnnpikkdaaW.PrintLast

/-- What New leaves of a state that may be. -/
def HNewE (w : World) (n : Nat) (start : St) (e : Ending) (w' : World) : Prop :=
  ∃ be R, e = .returned (.tuple #[.pointer (some ⟨be, 0, none⟩), .int .i64 0]) ∧ HRep w' w.heap.size be R n start (heZero n start) ∧ Below w.heap.size w w'

set_option maxRecDepth 100000 in
set_option maxHeartbeats 3200000 in
theorem he_new_no {w : World} {vl : Value} (s : St) (hx : Rd w vl s.L) (n : Int) (hno : mayB s = false ∨ n < 1 ∨ 64 < n) :
    Calls Try.prog 28 #[.agg #[.int .i64 s.kind, vl, .bool s.isSealed, .int .i64 s.to], .int .i64 n] w fun e w' => e = .returned (.tuple #[.pointer none, .int .i64 1]) ∧ Below w.heap.size w w' := by
  obtain ⟨a, c, rfl, _⟩ := id hx
  have hb1 : Below w.heap.size w (w.alloc (.cells #[.int .i64 s.kind, .slice a s.L.length c, .bool s.isSealed, .int .i64 s.to] 24)) := (Below.refl _ _).alloc (Nat.le_refl _) _
  have hm := o_may_any (w := (w.alloc (.cells #[.int .i64 s.kind, .slice a s.L.length c, .bool s.isSealed, .int .i64 s.to] 24))) s (hx.alloc _)
  have HB := Lib.hid hb1
  by_cases h1 : mayB s = false
  · rw [h1] at hm
    have HM := Lib.hid hm
    clear hx hb1 hm h1 hno
    go_enter Try.func28, Try.ntmps28
    go_wp2_with (go_at_call 37; refine HM.out.mono ?_; rintro e w3 ⟨rfl, hb3⟩; have H3 := Lib.hid hb3; clear hb3)
    go_ret2
    exact ⟨rfl, HB.out.trans (H3.out.mono (by simp))⟩
  · have h1' : mayB s = true := by simpa using h1
    rw [h1'] at hm
    have HM := Lib.hid hm
    have h2 := hno.resolve_left h1
    clear hx hb1 hm h1 h1' hno
    by_cases h3 : n < 1
    · have d3 : decide (n < 1) = true := decide_eq_true h3
      clear h2
      go_enter Try.func28, Try.ntmps28
      go_wp2_with (go_at_call 37; refine HM.out.mono ?_; rintro e w3 ⟨rfl, hb3⟩; have H3 := Lib.hid hb3; clear hb3)
      go_ret2
      exact ⟨rfl, HB.out.trans (H3.out.mono (by simp))⟩
    · have h4 := h2.resolve_left h3
      have d3 : decide (n < 1) = false := decide_eq_false h3
      have d4 : decide (64 < n) = true := decide_eq_true h4
      clear h2 h3
      go_enter Try.func28, Try.ntmps28
      go_wp2_with (go_at_call 37; refine HM.out.mono ?_; rintro e w3 ⟨rfl, hb3⟩; have H3 := Lib.hid hb3; clear hb3)
      go_ret2
      exact ⟨rfl, HB.out.trans (H3.out.mono (by simp))⟩

theorem mach_cellsN {w : World} {bm : Nat} {vc vs : Value} {S : List Int} {n : Nat} (h : Mach w bm vc vs ⟨List.replicate n 0, S⟩) (hn : n ≤ 64) :
    Calls Try.prog 39 #[.pointer (some ⟨bm, 0, none⟩), .int .i64 n] w fun e w' =>
      e = .returned (.int .i64 n) ∧ ∃ vc', Mach w' bm vc' vs ⟨List.replicate (2 * n) 0, S⟩ ∧ Keeps (machF bm vc vs) w w' ∧ (∀ k, machF bm vc' vs k → machF bm vc vs k ∨ w.heap.size ≤ k) := by
  have := mach_cells h n (by simp; omega)
  rw [if_pos (by omega)] at this
  refine this.mono ?_
  rintro e w' ⟨rfl, vc', h1, h2, h3⟩
  refine ⟨by simp, vc', ?_, h2, h3⟩
  have e : List.replicate n (0 : Int) ++ List.replicate (Int.toNat n) 0 = List.replicate (2 * n) 0 := by
    rw [Int.toNat_natCast, List.replicate_append_replicate, show n + n = 2 * n by omega]
  rw [← e]
  exact h1
/-- The engine as New makes it, behind k of the processes. -/
structure HNewL (w : World) (n be bm : Nat) (vc vs : Value) (s : St) (vL : Value) (k : Nat) (vp : Value) (pa : Nat → Nat) (w' : World) : Prop where
  bel : Below w.heap.size w w'
  eng : Blk w' be #[.int .i64 s.kind, vL, .bool s.isSealed, .int .i64 s.to, ptrV bm, .int .i64 0, .int .i64 n, vp, .slice none 0 0] 95
  engG : w.heap.size ≤ be
  mach : Mach w' bm vc vs ⟨List.replicate (2 * n) 0, List.replicate n 0⟩
  machG : ∀ k, machF bm vc vs k → w.heap.size ≤ k
  procs : Own w' 96 1 vp k ((List.range k).map fun p => ptrV (pa p))
  procsG : Fresh w.heap.size vp
  proc : ∀ p, p < k → Blk w' (pa p) (hprocV be p newHP 0 .nilFunc) 98
  procG : ∀ p, p < k → w.heap.size ≤ pa p
  inj : ∀ p q, p < k → q < k → pa p = pa q → p = q
theorem HNewL.keeps {w w1 w2 : World} {n be bm k : Nat} {vc vs vL vp : Value} {s : St} {pa : Nat → Nat} (h : HNewL w n be bm vc vs s vL k vp pa w1) (kk : Keeps (fun _ => False) w1 w2) : HNewL w n be bm vc vs s vL k vp pa w2 :=
  ⟨h.bel.trans (kk.below (fun _ h => h.elim) h.bel.size), h.eng.keeps kk id, h.engG, h.mach.keeps kk (fun _ _ => id), h.machG, own_keeps h.procs kk (fun _ _ => id), h.procsG, fun p hp => (h.proc p hp).keeps kk id, h.procG, h.inj⟩
theorem HNewL.next {w w1 w2 : World} {n be bm k b : Nat} {vc vs vL vp vp' : Value} {s : St} {pa : Nat → Nat} (h : HNewL w n be bm vc vs s vL k vp pa w1) (hb : Blk w1 b (hprocV be k newHP 0 .nilFunc) 98) (hbG : w.heap.size ≤ b) (hnew : ∀ p, p < k → pa p ≠ b)
    (hO : Own w2 96 1 vp' (k + 1) ((List.range k).map (fun p => ptrV (pa p)) ++ [ptrV b])) (hg : w1.grownBy w2 vp.ownBlock) (hat : vp'.ownBlock = vp.ownBlock ∨ vp'.ownBlock = some w1.heap.size) :
    HNewL w n be bm vc vs s vL (k + 1) vp' (fun p => if p = k then b else pa p) (w2.setCell ⟨be, 7, none⟩ vp') := by
  have kk : Keeps (fun q => vp.ownBlock = some q) w1 w2 := (Keeps.refl _ w1).grown hg (fun k e => .inl e)
  have nB : ∀ {b : Nat} {cs : Array Value} {T : TypeId}, Blk w1 b cs T → 96 ≠ T → ¬ vp.ownBlock = some b := fun hb hT => own_blk_ne h.procs hb hT
  have hE2 := h.eng.keeps kk (nB h.eng (by decide))
  have hM2 := h.mach.keeps kk (fun q hq e => by
    rcases hq with rfl | hq | hq
    · exact nB h.mach.blk (by decide) e
    · exact own_type_ne h.mach.cells h.procs (by decide) hq e
    · exact own_type_ne h.mach.steps h.procs (by decide) hq e)
  refine ⟨?_, by have := hE2.set 7 vp'; simpa using this, h.engG, ?_, h.machG, ?_, ?_, ?_, ?_, ?_⟩
  · refine h.bel.trans ?_
    have k2 : Keeps (fun q => vp.ownBlock = some q ∨ q = be) w1 _ := (kk.mono (fun q hq => .inl hq)).set be 7 (.inl (.inr rfl)) vp'
    refine k2.below (fun q hq => ?_) h.bel.size
    rcases hq with hq | hq
    · exact h.procsG q hq
    · subst hq; exact h.engG
  · exact hM2.other (a := ⟨be, 7, none⟩) (fun hf => by
      rcases hf with hf | hf | hf
      · exact blk_ne hE2 hM2.blk (by decide) hf
      · exact own_blk_ne hM2.cells hE2 (by decide) hf
      · exact own_blk_ne hM2.steps hE2 (by decide) hf) vp'
  · have := own_set hO hE2 (by decide) 7 vp'
    have e : ((List.range (k + 1)).map fun p => ptrV (if p = k then b else pa p)) = (List.range k).map (fun p => ptrV (pa p)) ++ [ptrV b] := by
      rw [List.range_succ, List.map_append]
      congr 1
      · apply List.map_congr_left
        intro p hp
        rw [if_neg (by have := List.mem_range.1 hp; omega)]
      · simp
    rw [e]
    exact this
  · intro q hq
    rcases hat with e | e <;> rw [e] at hq
    · exact h.procsG q hq
    · injection hq with hq
      have := h.bel.size
      omega
  · intro p hp
    by_cases e : p = k
    · subst e
      rw [if_pos rfl]
      exact (hb.keeps kk (nB hb (by decide))).other (a := ⟨be, 7, none⟩) (blk_ne hb h.eng (by decide)) vp'
    · rw [if_neg e]
      have hbp := h.proc p (by omega)
      exact (hbp.keeps kk (nB hbp (by decide))).other (a := ⟨be, 7, none⟩) (blk_ne hbp h.eng (by decide)) vp'
  · intro p hp
    split
    · exact hbG
    · exact h.procG p (by omega)
  · intro p q hp hq e
    split at e <;> split at e
    · omega
    · exact (hnew q (by omega) e.symm).elim
    · exact (hnew p (by omega) e).elim
    · exact h.inj p q (by omega) (by omega) e

end Go.Proofs.Ytjfenjnnpikkdaa
/- Package herlihy: New, of a state that may be. -/
namespace Go.Proofs.Ytjfenjnnpikkdaa
set_option maxRecDepth 100000
open Go.RowKit
open Go.Proofs.YtjfenjnnpikkdaaW.PrintLast

abbrev heOne (s : St) : HS := ⟨[node0 s 0], [], fun _ => 0, fun _ => 0, fun _ => newHP⟩
theorem cval_zero (n : Nat) (s : St) (j : Nat) : cval n (heZero n s) j = if j = ncell n 0 then 1 else cval n (heOne s) j := by
  have := cval_place_upd (n := n) (i := 0) (v := 1) (H := heOne s) (by simp) (fun _ => newHP) j
  have e : cval n (heZero n s) j = cval n { (heOne s).setN 0 { (heOne s).nd 0 with place := 1 } with procs := fun _ => newHP } j := by
    unfold cval heZero
    rfl
  rw [e, this]
  rfl

set_option maxRecDepth 100000 in
set_option maxHeartbeats 6400000 in
theorem he_new {w : World} {vl : Value} (s : St) (hx : Rd w vl s.L) (hl : s.L.length ≤ 300) (n : Nat) (hm1 : mayB s = true) (hn1 : 1 ≤ n) (hn2 : n ≤ 64) :
    Calls Try.prog 28 #[.agg #[.int .i64 s.kind, vl, .bool s.isSealed, .int .i64 s.to], .int .i64 n] w (HNewE w n s) := by
  obtain ⟨a, c, rfl, _⟩ := id hx
  have hb1 : Below w.heap.size w (w.alloc (.cells #[.int .i64 s.kind, .slice a s.L.length c, .bool s.isSealed, .int .i64 s.to] 24)) := (Below.refl _ _).alloc (Nat.le_refl _) _
  have hm := o_may (w := (w.alloc (.cells #[.int .i64 s.kind, .slice a s.L.length c, .bool s.isSealed, .int .i64 s.to] 24))) s (hx.alloc _) (by omega)
  have hS1 := Blk.new w #[.int .i64 s.kind, .slice a s.L.length c, .bool s.isSealed, .int .i64 s.to] 24
  rw [hm1] at hm
  have d3 : decide ((n : Int) < 1) = false := decide_eq_false (by omega)
  have d4 : decide (64 < (n : Int)) = false := decide_eq_false (by omega)
  have HM := Lib.hid hm
  have HB := Lib.hid hb1
  have HX := Lib.hid hx
  clear hx hb1 hm hm1
  go_enter Try.func28, Try.ntmps28
  go_wp2_with (go_at_call 37; refine HM.out.mono ?_; rintro e w3 ⟨rfl, hb3⟩; have H3 := HB.out.trans (hb3.mono (by simp)); have hS3 := hS1.below hb3 (by simp))
  clear hb3 hS1
  have hBs : w.heap.size ≤ w3.heap.size := H3.size
  have c0 : w3.cell? ⟨w.heap.size, 0, none⟩ = some (.int .i64 s.kind) := hS3.cell 0
  have c1 : w3.cell? ⟨w.heap.size, 1, none⟩ = some (.slice a s.L.length c) := hS3.cell 1
  have c2 : w3.cell? ⟨w.heap.size, 2, none⟩ = some (.bool s.isSealed) := hS3.cell 2
  have c3 : w3.cell? ⟨w.heap.size, 3, none⟩ = some (.int .i64 s.to) := hS3.cell 3
  refine start_ (n := 6) (S := fun w' => w'.cell? ⟨w.heap.size, 0, none⟩ = some (.int .i64 s.kind) ∧ w'.cell? ⟨w.heap.size, 1, none⟩ = some (.slice a s.L.length c) ∧ w'.cell? ⟨w.heap.size, 2, none⟩ = some (.bool s.isSealed) ∧ w'.cell? ⟨w.heap.size, 3, none⟩ = some (.int .i64 s.to)) (ds := []) #[false, false, false, false, false, false] (by kernel_rfl) rfl rfl ⟨c0, c1, c2, c3⟩ (fun hHeld => ?_)
  refine pure_ (i := 1) (N := some 20) (v := ?_) (a' := ?_) #[false, true, false, false, false, false] rfl rfl (by kernel_rfl) (fun _ _ _ h => h) (Or.inl ⟨by rfl, ?_⟩) ?_ ?_
  rotate_left
  · intro w'
    go_simp
    with_reducible rfl
  rotate_left
  · simp only [Act.put, nA, nB, nC, i64_w, i32_w]
    rfl
  refine take_ (i := 0) (N := some 19) (v := ?_) (a' := ?_) #[true, true, false, false, false, false] rfl rfl (by kernel_rfl) (fun _ _ _ h => h) (Or.inl ⟨by rfl, ?_⟩) hHeld ?_ ?_
  rotate_left
  · rintro w' ⟨s0, s1, s2, s3⟩
    go_simp
    with_reducible rfl
  rotate_left
  · simp only [Act.put, nA, nB, nC, i64_w, i32_w]
    rfl
  refine one_ (i := 2) (N := some 21) #[true, true, true, false, false, false] rfl rfl (by kernel_rfl) (by decide) (fun K hK => ?_)
  refine goes_ Try.func38 (by kernel_rfl) rfl #[.int .i64 n] (by rfl) rfl rfl (by simp only [List.map_toArray, List.map_cons, List.map_nil]; rfl) ?_
  with_reducible refine (mach_new _ n (by omega)).mono ?_
  rintro e w4 ⟨bm, vs, rfl, hM4, hK4, hG4⟩
  refine ⟨_, rfl, ?_⟩
  try clear hHeld
  refine hK.out _ _ ⟨(hK4.cellSome (fun h => h) c0), (hK4.cellSome (fun h => h) c1), (hK4.cellSome (fun h => h) c2), (hK4.cellSome (fun h => h) c3)⟩ (fun hHeld => ?_)
  clear hK K
  refine norm_ (a' := ?_) ?_ ?_
  rotate_left
  · show Act.put _ (some 21) _ = _
    simp only [Act.put, nA, nB, nC, i64_w, i32_w]
    rfl
  refine pure_ (i := 3) (N := some 22) (v := ?_) (a' := ?_) #[true, true, true, true, false, false] rfl rfl (by kernel_rfl) (fun _ _ _ h => h) (Or.inl ⟨by rfl, ?_⟩) ?_ ?_
  rotate_left
  · intro w'
    go_simp
    with_reducible rfl
  rotate_left
  · simp only [Act.put, nA, nB, nC, i64_w, i32_w]
    rfl
  refine one_ (i := 4) (N := some 23) #[true, true, true, true, true, false] rfl rfl (by kernel_rfl) (by decide) (fun K hK => ?_)
  refine value_ (w1 := ?_) (v := ?_) (by rfl) rfl ?_ ?_
  rotate_left 2
  · go_simp
    constructor
    · rfl
    · rfl
  try clear hHeld
  refine hK.out _ _ ⟨Lib.cell?_alloc_some _ (hK4.cellSome (fun h => h) c0), Lib.cell?_alloc_some _ (hK4.cellSome (fun h => h) c1), Lib.cell?_alloc_some _ (hK4.cellSome (fun h => h) c2), Lib.cell?_alloc_some _ (hK4.cellSome (fun h => h) c3)⟩ (fun hHeld => ?_)
  clear hK K
  refine norm_ (a' := ?_) ?_ ?_
  rotate_left
  · show Act.put _ (some 23) _ = _
    simp only [Act.put, nA, nB, nC, i64_w, i32_w]
    rfl
  refine pure_ (i := 5) (N := some 6) (v := ?_) (a' := ?_) #[true, true, true, true, true, true] rfl rfl (by kernel_rfl) (fun _ _ _ h => h) (Or.inl ⟨by rfl, ?_⟩) ?_ ?_
  rotate_left
  · intro w'
    go_simp
    with_reducible rfl
  rotate_left
  · simp only [Act.put, nA, nB, nC, i64_w, i32_w]
    rfl
  try clear hHeld
  refine done_ (by kernel_rfl) ?_
  go_wp2_with fail
  clear c0 c1 c2 c3
  have hB4 : Below w.heap.size w w4 := H3.drew.trans (hK4.below (fun _ h => h.elim) hBs)
  have hE6 := Blk.new w4 #[.int .i64 s.kind, .slice a s.L.length c, .bool s.isSealed, .int .i64 s.to, .pointer (some ⟨bm, 0, none⟩), .int .i64 0, .int .i64 0, .slice none 0 0, .slice none 0 0] 95
  have hB6 : Below w.heap.size w (w4.alloc (.cells #[.int .i64 s.kind, .slice a s.L.length c, .bool s.isSealed, .int .i64 s.to, .pointer (some ⟨bm, 0, none⟩), .int .i64 0, .int .i64 0, .slice none 0 0, .slice none 0 0] 95)) := hB4.alloc hB4.size _
  have hM6 := hM4.alloc (.cells #[.int .i64 s.kind, .slice a s.L.length c, .bool s.isSealed, .int .i64 s.to, .pointer (some ⟨bm, 0, none⟩), .int .i64 0, .int .i64 0, .slice none 0 0, .slice none 0 0] 95)
  have hBe : w.heap.size ≤ w4.heap.size := hB4.size
  have hmg : ∀ k, machF bm (.slice none 0 0) vs k → w.heap.size ≤ k := fun k hk => Nat.le_trans hBs (hG4 k hk)
  have hS6 := (hS3.drew.keeps hK4 (fun h => h)).alloc (.cells #[.int .i64 s.kind, .slice a s.L.length c, .bool s.isSealed, .int .i64 s.to, .pointer (some ⟨bm, 0, none⟩), .int .i64 0, .int .i64 0, .slice none 0 0, .slice none 0 0] 95)
  clear H3 hBs hS3 hM4 hK4 hG4
  generalize w4.alloc (.cells #[.int .i64 s.kind, .slice a s.L.length c, .bool s.isSealed, .int .i64 s.to, .pointer (some ⟨bm, 0, none⟩), .int .i64 0, .int .i64 0, .slice none 0 0, .slice none 0 0] 95) = w6 at *
  generalize w4.heap.size = be at *
  have e60 : w6.cell? ⟨be, 4, none⟩ = some (.pointer (some ⟨bm, 0, none⟩)) := hE6.cell 4
  refine start_ (n := 20) (S := fun w' => w'.cell? ⟨be, 4, none⟩ = some (.pointer (some ⟨bm, 0, none⟩))) (ds := [16, 19]) #[false, false, false, false, false, false, false, false, false, false, false, false, false, false, false, false, false, false, false, false] (by kernel_rfl) rfl rfl (e60) (fun hHeld => ?_)
  refine pure_ (i := 0) (N := some 24) (v := ?_) (a' := ?_) #[true, false, false, false, false, false, false, false, false, false, false, false, false, false, false, false, false, false, false, false] rfl rfl (by kernel_rfl) (fun _ _ _ h => h) (Or.inl ⟨by rfl, ?_⟩) ?_ ?_
  rotate_left
  · intro w'
    go_simp
    with_reducible rfl
  rotate_left
  · simp only [Act.put, nA, nB, nC, i64_w, i32_w]
    rfl
  refine pure_ (i := 1) (N := some 25) (v := ?_) (a' := ?_) #[true, true, false, false, false, false, false, false, false, false, false, false, false, false, false, false, false, false, false, false] rfl rfl (by kernel_rfl) (fun _ _ _ h => h) (Or.inl ⟨by rfl, ?_⟩) ?_ ?_
  rotate_left
  · intro w'
    go_simp
    with_reducible rfl
  rotate_left
  · simp only [Act.put, nA, nB, nC, i64_w, i32_w]
    rfl
  refine pure_ (i := 2) (N := some 26) (v := ?_) (a' := ?_) #[true, true, true, false, false, false, false, false, false, false, false, false, false, false, false, false, false, false, false, false] rfl rfl (by kernel_rfl) (fun _ _ _ h => h) (Or.inl ⟨by rfl, ?_⟩) ?_ ?_
  rotate_left
  · intro w'
    go_simp
    with_reducible rfl
  rotate_left
  · simp only [Act.put, nA, nB, nC, i64_w, i32_w]
    rfl
  refine pure_ (i := 3) (N := some 27) (v := ?_) (a' := ?_) #[true, true, true, true, false, false, false, false, false, false, false, false, false, false, false, false, false, false, false, false] rfl rfl (by kernel_rfl) (fun _ _ _ h => h) (Or.inl ⟨by rfl, ?_⟩) ?_ ?_
  rotate_left
  · intro w'
    go_simp
    with_reducible rfl
  rotate_left
  · simp only [Act.put, nA, nB, nC, i64_w, i32_w]
    rfl
  refine pure_ (i := 4) (N := some 28) (v := ?_) (a' := ?_) #[true, true, true, true, true, false, false, false, false, false, false, false, false, false, false, false, false, false, false, false] rfl rfl (by kernel_rfl) (fun _ _ _ h => h) (Or.inl ⟨by rfl, ?_⟩) ?_ ?_
  rotate_left
  · intro w'
    go_simp
    with_reducible rfl
  rotate_left
  · simp only [Act.put, nA, nB, nC, i64_w, i32_w]
    rfl
  refine pure_ (i := 6) (N := some 30) (v := ?_) (a' := ?_) #[true, true, true, true, true, false, true, false, false, false, false, false, false, false, false, false, false, false, false, false] rfl rfl (by kernel_rfl) (fun _ _ _ h => h) (Or.inl ⟨by rfl, ?_⟩) ?_ ?_
  rotate_left
  · intro w'
    go_simp
    with_reducible rfl
  rotate_left
  · simp only [Act.put, nA, nB, nC, i64_w, i32_w]
    rfl
  refine pure_ (i := 8) (N := some 32) (v := ?_) (a' := ?_) #[true, true, true, true, true, false, true, false, true, false, false, false, false, false, false, false, false, false, false, false] rfl rfl (by kernel_rfl) (fun _ _ _ h => h) (Or.inl ⟨by rfl, ?_⟩) ?_ ?_
  rotate_left
  · intro w'
    go_simp
    with_reducible rfl
  rotate_left
  · simp only [Act.put, nA, nB, nC, i64_w, i32_w]
    rfl
  refine pure_ (i := 9) (N := some 33) (v := ?_) (a' := ?_) #[true, true, true, true, true, false, true, false, true, true, false, false, false, false, false, false, false, false, false, false] rfl rfl (by kernel_rfl) (fun _ _ _ h => h) (Or.inl ⟨by rfl, ?_⟩) ?_ ?_
  rotate_left
  · intro w'
    go_simp
    with_reducible rfl
  rotate_left
  · simp only [Act.put, nA, nB, nC, i64_w, i32_w]
    rfl
  refine pure_ (i := 10) (N := some 34) (v := ?_) (a' := ?_) #[true, true, true, true, true, false, true, false, true, true, true, false, false, false, false, false, false, false, false, false] rfl rfl (by kernel_rfl) (fun _ _ _ h => h) (Or.inl ⟨by rfl, ?_⟩) ?_ ?_
  rotate_left
  · intro w'
    go_simp
    with_reducible rfl
  rotate_left
  · simp only [Act.put, nA, nB, nC, i64_w, i32_w]
    rfl
  refine pure_ (i := 12) (N := some 36) (v := ?_) (a' := ?_) #[true, true, true, true, true, false, true, false, true, true, true, false, true, false, false, false, false, false, false, false] rfl rfl (by kernel_rfl) (fun _ _ _ h => h) (Or.inl ⟨by rfl, ?_⟩) ?_ ?_
  rotate_left
  · intro w'
    go_simp
    with_reducible rfl
  rotate_left
  · simp only [Act.put, nA, nB, nC, i64_w, i32_w]
    rfl
  refine take_ (i := 5) (N := some 29) (v := ?_) (a' := ?_) #[true, true, true, true, true, true, true, false, true, true, true, false, true, false, false, false, false, false, false, false] rfl rfl (by kernel_rfl) (fun _ _ _ h => h) (Or.inl ⟨by rfl, ?_⟩) hHeld ?_ ?_
  rotate_left
  · intro w' s0
    go_simp
    with_reducible rfl
  rotate_left
  · simp only [Act.put, nA, nB, nC, i64_w, i32_w]
    rfl
  refine take_ (i := 11) (N := some 35) (v := ?_) (a' := ?_) #[true, true, true, true, true, true, true, false, true, true, true, true, true, false, false, false, false, false, false, false] rfl rfl (by kernel_rfl) (fun _ _ _ h => h) (Or.inl ⟨by rfl, ?_⟩) hHeld ?_ ?_
  rotate_left
  · intro w' s0
    go_simp
    with_reducible rfl
  rotate_left
  · simp only [Act.put, nA, nB, nC, i64_w, i32_w]
    rfl
  refine one_ (i := 7) (N := some 31) #[true, true, true, true, true, true, true, true, true, true, true, true, true, false, false, false, false, false, false, false] rfl rfl (by kernel_rfl) (by decide) (fun K hK => ?_)
  refine goes_ Try.func39 (by kernel_rfl) rfl #[.pointer (some ⟨bm, 0, none⟩), .int .i64 n] (by rfl) rfl rfl (by simp only [List.map_toArray, List.map_cons, List.map_nil]; rfl) ?_
  with_reducible refine (mach_cellsA hM6.drew n hn2).mono ?_
  rintro e w7 ⟨rfl, vc7, hM7, hK7, hG7⟩
  refine ⟨_, rfl, ?_⟩
  have hE7 := (hE6.drew).keeps hK7 (hM6.notF hE6 (by decide) (by decide))
  try clear hHeld
  refine hK.out _ _ ((hE7.cell 4)) (fun hHeld => ?_)
  clear hK K
  refine norm_ (a' := ?_) ?_ ?_
  rotate_left
  · show Act.put _ (some 31) _ = _
    simp only [Act.put, nA, nB, nC, i64_w, i32_w]
    rfl
  refine one_ (i := 13) (N := some 37) #[true, true, true, true, true, true, true, true, true, true, true, true, true, true, false, false, false, false, false, false] rfl rfl (by kernel_rfl) (by decide) (fun K hK => ?_)
  refine goes_ Try.func39 (by kernel_rfl) rfl #[.pointer (some ⟨bm, 0, none⟩), .int .i64 n] (by rfl) rfl rfl (by simp only [List.map_toArray, List.map_cons, List.map_nil]; rfl) ?_
  with_reducible refine (mach_cellsN hM7 hn2).mono ?_
  rintro e w8 ⟨rfl, vc8, hM8, hK8, hG8⟩
  refine ⟨_, rfl, ?_⟩
  have hE8 := hE7.keeps hK8 (hM7.notF hE7 (by decide) (by decide))
  have f1 := hE8.frozen 5
  have f2 := hE8.frozen 6
  have v1 : w8.cell? ⟨be, 5, none⟩ = some (.int .i64 0) := hE8.cell 5
  have v2 : w8.cell? ⟨be, 6, none⟩ = some (.int .i64 0) := hE8.cell 6
  try clear hHeld
  refine hK.out _ _ ((hE8.cell 4)) (fun hHeld => ?_)
  clear hK K
  refine norm_ (a' := ?_) ?_ ?_
  rotate_left
  · show Act.put _ (some 37) _ = _
    simp only [Act.put, nA, nB, nC, i64_w, i32_w]
    rfl
  refine pure_ (i := 14) (N := some 38) (v := ?_) (a' := ?_) #[true, true, true, true, true, true, true, true, true, true, true, true, true, true, true, false, false, false, false, false] rfl rfl (by kernel_rfl) (fun _ _ _ h => h) (Or.inl ⟨by rfl, ?_⟩) ?_ ?_
  rotate_left
  · intro w'
    go_simp
    with_reducible rfl
  rotate_left
  · simp only [Act.put, nA, nB, nC, i64_w, i32_w]
    rfl
  refine pure_ (i := 15) (N := some 39) (v := ?_) (a' := ?_) #[true, true, true, true, true, true, true, true, true, true, true, true, true, true, true, true, false, false, false, false] rfl rfl (by kernel_rfl) (fun _ _ _ h => h) (Or.inl ⟨by rfl, ?_⟩) ?_ ?_
  rotate_left
  · intro w'
    go_simp
    with_reducible rfl
  rotate_left
  · simp only [Act.put, nA, nB, nC, i64_w, i32_w]
    rfl
  refine last_ (i := 16) (N := none) #[true, true, true, true, true, true, true, true, true, true, true, true, true, true, true, true, true, false, false, false] rfl rfl (by kernel_rfl) (by decide) (fun K hK => ?_)
  refine skip_ (w1 := ?_) (by rfl) rfl ?_ ?_
  rotate_left
  · go_simp
    rfl
  try clear hHeld
  refine hK.out _ _ ?_
  clear hK K
  refine pure_ (i := 17) (N := some 40) (v := ?_) (a' := ?_) #[true, true, true, true, true, true, true, true, true, true, true, true, true, true, true, true, true, true, false, false] rfl rfl (by kernel_rfl) (fun _ _ _ h => h) (Or.inl ⟨by rfl, ?_⟩) ?_ ?_
  rotate_left
  · intro w'
    go_simp
    with_reducible rfl
  rotate_left
  · simp only [Act.put, nA, nB, nC, i64_w, i32_w]
    rfl
  refine pure_ (i := 18) (N := some 41) (v := ?_) (a' := ?_) #[true, true, true, true, true, true, true, true, true, true, true, true, true, true, true, true, true, true, true, false] rfl rfl (by kernel_rfl) (fun _ _ _ h => h) (Or.inl ⟨by rfl, ?_⟩) ?_ ?_
  rotate_left
  · intro w'
    go_simp
    with_reducible rfl
  rotate_left
  · simp only [Act.put, nA, nB, nC, i64_w, i32_w]
    rfl
  refine last_ (i := 19) (N := none) #[true, true, true, true, true, true, true, true, true, true, true, true, true, true, true, true, true, true, true, true] rfl rfl (by kernel_rfl) (by decide) (fun K hK => ?_)
  refine skip_ (w1 := ?_) (by rfl) rfl ?_ ?_
  rotate_left
  · go_simp
    rfl
  try clear hHeld
  refine hK.out _ _ ?_
  clear hK K
  try clear hHeld
  refine done_ (by kernel_rfl) ?_
  go_wp2_with fail
  have hN0 : HNewL w n be bm vc8 vs s (.slice a s.L.length c) 0 (.slice none 0 0) (fun _ => 0) ((w8.setCell ⟨be, 5, none⟩ (.int .i64 0)).setCell ⟨be, 6, none⟩ (.int .i64 n)) := by
    have hE9 := (hE8.set 5 (.int .i64 0)).set 6 (.int .i64 n)
    have nb := hM8.notF hE8 (by decide) (by decide)
    have b7 := (hB6.drew).trans ((hK7.below (B := w.heap.size) hmg hB6.size))
    have g7 : ∀ k, machF bm vc7 vs k → w.heap.size ≤ k := fun k hk => (hG7 k hk).elim (hmg k) (fun h => Nat.le_trans hB6.size h)
    have b8 := b7.trans ((hK8.below (B := w.heap.size) g7 b7.size))
    have g8 : ∀ k, machF bm vc8 vs k → w.heap.size ≤ k := fun k hk => (hG8 k hk).elim (g7 k) (fun h => Nat.le_trans b7.size h)
    refine ⟨(b8.trans (((Keeps.refl (fun q => q = be) w8).set be 5 (.inl rfl) (.int .i64 0)).below (fun q hq => by subst hq; exact hBe) b8.size)).trans (((Keeps.refl (fun q => q = be) _).set be 6 (.inl rfl) (.int .i64 n)).below (fun q hq => by subst hq; exact hBe) (by simpa using b8.size)), by simpa using hE9, hBe, (hM8.other (a := ⟨be, 5, none⟩) nb _).other (a := ⟨be, 6, none⟩) nb _, g8, World.ownsRow_nil .., fun k hk => by simp [Value.ownBlock] at hk, fun p hp => by omega, fun p hp => by omega, fun p q hp => by omega⟩
  have hS9 : Blk ((w8.setCell ⟨be, 5, none⟩ (.int .i64 0)).setCell ⟨be, 6, none⟩ (.int .i64 n)) w.heap.size #[.int .i64 s.kind, .slice a s.L.length c, .bool s.isSealed, .int .i64 s.to] 24 := by
    have n1 := blk_ne hS6 hE6 (by decide)
    have s7 := hS6.drew.keeps hK7 (hM6.notF hS6 (by decide) (by decide))
    have s8 := s7.keeps hK8 (hM7.notF s7 (by decide) (by decide))
    exact (s8.other (a := ⟨be, 5, none⟩) n1 _).other (a := ⟨be, 6, none⟩) n1 _
  clear hE8 hM8 hK8 hG8 hE7 hM7 hK7 hG7 hE6 hB6 hM6 hmg hBe hS6 e60 f1 f2 v1 v2
  generalize (w8.setCell ⟨be, 5, none⟩ (.int .i64 0)).setCell ⟨be, 6, none⟩ (.int .i64 n) = w9 at *
  go_loopw [43] (fun i wr => ∃ (k : Nat) (vp : Value) (pa : Nat → Nat), k ≤ n ∧ i = .int .i64 k ∧ HNewL w n be bm vc8 vs s (.slice a s.L.length c) k vp pa wr ∧ Blk wr w.heap.size #[.int .i64 s.kind, .slice a s.L.length c, .bool s.isSealed, .int .i64 s.to] 24) (fun i _ => n - (intOf i).toNat)
  case atStart => exact ⟨0, _, _, Nat.zero_le _, rfl, hN0, hS9⟩
  case round =>
    obtain ⟨k, vp, pa, hk, rfl, hN, hS⟩ := hrel
    clear hN0 hS9
    by_cases hlt : k < n
    · have d5 : decide ((k : Int) < n) = true := decide_eq_true (by omega)
      have hO := hN.procs
      obtain ⟨ap, cp, evp⟩ := own_shape hO
      have e3 : wr.cell? ⟨be, 7, none⟩ = some vp := hN.eng.cell 7
      rw [evp] at e3
      have hP1 := Blk.new wr (hprocV be k newHP 0 .nilFunc) 98
      have hN1 := hN.keeps ((Keeps.refl _ wr).alloc (.cells (hprocV be k newHP 0 .nilFunc) 98))
      have hS1 := hS.alloc (.cells (hprocV be k newHP 0 .nilFunc) 98)
      have hwb : w.heap.size ≤ wr.heap.size := hN.bel.size
      have hpl : ∀ p, p < k → pa p < wr.heap.size := fun p hp => (hN.proc p hp).lt
      have i64k : IntKind.i64.wrap ((k : Int) + 1) = (k : Int) + 1 := IntWalk.i64_in _ (by omega)
      have HP := Lib.hid hP1
      have HN1 := Lib.hid hN1
      have HS1 := Lib.hid hS1
      have HE := Lib.hid evp
      clear hN hS hP1 hN1 hS1 evp hO
      obtain ⟨i0, hi, hz0, hz1, hz2⟩ := info_parts infoHP
      have hnew : ∀ (j : Nat) (u : Value), [Value.pointer (some ⟨wr.heap.size, 0, none⟩)][j]? = some u → ((wr.alloc (.cells (hprocV be k newHP 0 .nilFunc) 98)).alloc (.cells #[.pointer (some ⟨wr.heap.size, 0, none⟩)] 96)).cell? ((⟨wr.heap.size + 1, 0, none⟩ : Addr).add j) = some u := by
        have := cell_one_new (wr.alloc (.cells (hprocV be k newHP 0 .nilFunc) 98)) (.pointer (some ⟨wr.heap.size, 0, none⟩)) 96
        rwa [World.size_alloc] at this
      have HNEW := Lib.hid hnew
      clear hnew
      have hf3 := HN1.out.eng.alloc (.cells #[.pointer (some ⟨wr.heap.size, 0, none⟩)] 96)
      have HF3 := Lib.hid hf3
      clear hf3
      go_wp2_with (at_builtin; refine wpList_append_own_at _ rfl _ _ 92 rfl 0 96 i0 (.pointer none) 1 8 Try.underlying92 hi hz0 hz1 hz2 rfl (by decide) (.slice ap k cp) _ _ rfl (by rw [← HE.out]; exact HN1.out.procs.alloc _) ⟨wr.heap.size + 1, 0, none⟩ 1 1 [.pointer (some ⟨wr.heap.size, 0, none⟩)] rfl (by simp) HNEW.out (by intro u hu; simp at hu; subst hu; rfl) (by simp only [maxLen]; omega) (by omega) (Nat.zero_le _) ?_; intro v' w5 hown hgrow hnil hat; obtain ⟨a1, c1, rfl⟩ := own_shape hown; have hE5 := HF3.out.keeps ((Keeps.refl (fun q => (Value.slice ap k cp).ownBlock = some q) _).grown hgrow (fun q e => .inl e)) (fun e => own_blk_ne HN1.out.procs HN1.out.eng (by decide) (by rw [HE.out]; exact e)); have c3 : w5.cell? ⟨be, 7, none⟩ = some vp := hE5.cell 7; rw [HE.out] at c3; have fz3 := hE5.frozen 7; have HOWN := Lib.hid hown; have HGROW := Lib.hid hgrow; have HAT := Lib.hid hat; clear hown hgrow hat hnil hE5 e3)
      go_roundw
      case rel =>
        have hN2 := HN1.out.keeps ((Keeps.refl _ _).alloc (.cells #[.pointer (some ⟨wr.heap.size, 0, none⟩)] 96))
        have hS2 := HS1.out.alloc (.cells #[.pointer (some ⟨wr.heap.size, 0, none⟩)] 96)
        have hP2 := HP.out.alloc (.cells #[.pointer (some ⟨wr.heap.size, 0, none⟩)] 96)
        have hg := HGROW.out
        rw [← HE.out] at hg
        have hat := HAT.out
        rw [← HE.out] at hat
        have hfin := hN2.next hP2 hwb (fun p hp => by have := hpl p hp; omega) HOWN.out hg hat
        refine ⟨k + 1, _, _, by omega, by go_num, hfin, ?_⟩
        have hS5 := hS2.keeps ((Keeps.refl (fun q => vp.ownBlock = some q) _).grown hg (fun q e => .inl e)) (own_blk_ne hN2.procs hS2 (by decide))
        exact hS5.other (a := ⟨be, 7, none⟩) (blk_ne hS2 hN2.eng (by decide)) _
      case measure => simp [intOf]; omega
    · have d5 : decide ((k : Int) < n) = false := decide_eq_false (by omega)
      have hkn : k = n := by omega
      subst hkn
      have hh0 := (HNewParts.rep (base := w.heap.size) (steps := List.replicate k 0) (vL := .slice a s.L.length c) (s := s) ⟨⟨by omega, hn2⟩, hN.eng, hN.engG, hN.mach, hN.machG, hN.procs, hN.procsG, hN.proc, hN.procG, hN.inj, HX.out.below hN.bel (Nat.le_refl _), fun h0 => rd_block HX.out h0⟩)
      generalize (⟨bm, vc8, vs, List.replicate k 0, vp, .slice none 0 0, .slice a s.L.length c, pa, fun _ => 0, fun _ => 0, newOwnH be k bm vc8 vs vp pa⟩ : HRef) = R0 at *
      have c0 : wr.cell? ⟨w.heap.size, 0, none⟩ = some (.int .i64 s.kind) := hS.cell 0
      have c1 : wr.cell? ⟨w.heap.size, 1, none⟩ = some (.slice a s.L.length c) := hS.cell 1
      have c2 : wr.cell? ⟨w.heap.size, 2, none⟩ = some (.bool s.isSealed) := hS.cell 2
      have c3 : wr.cell? ⟨w.heap.size, 3, none⟩ = some (.int .i64 s.to) := hS.cell 3
      have hI6 : AddIn (wr.alloc (.cells #[.int .i64 0, .int .i64 0, .int .i64 0, .int .i64 0, .int .i64 0, .int .i64 0, .int .i64 0, .int .i64 0, .int .i64 s.kind, .slice a s.L.length c, .bool s.isSealed, .int .i64 s.to, .int .i64 0] 102)) be R0.bm wr.heap.size R0.vc R0.vs R0.vn _ _ _ _ _ _ _ _ _ _ _ _ _ _ _ _ _ _ _ _ (cellsH k heNone) R0.steps [] :=
        ⟨hh0.eng.alloc _, hh0.mach.alloc _, Blk.new wr _ _, hh0.nodes.alloc _, by rw [cellsH_len]; simp; omega, by simp⟩
      have hA := he_add hI6
      have hp0 := (hh0.proc 0 (by omega)).blk.alloc (.cells #[.int .i64 0, .int .i64 0, .int .i64 0, .int .i64 0, .int .i64 0, .int .i64 0, .int .i64 0, .int .i64 0, .int .i64 s.kind, .slice a s.L.length c, .bool s.isSealed, .int .i64 s.to, .int .i64 0] 102)
      have hw6 : Below wr.heap.size wr (wr.alloc (.cells #[.int .i64 0, .int .i64 0, .int .i64 0, .int .i64 0, .int .i64 0, .int .i64 0, .int .i64 0, .int .i64 0, .int .i64 s.kind, .slice a s.L.length c, .bool s.isSealed, .int .i64 s.to, .int .i64 0] 102)) := (Below.refl _ _).alloc (Nat.le_refl _) _
      have hr6 := (HX.out.below hN.bel (Nat.le_refl _)).alloc (.cells #[.int .i64 0, .int .i64 0, .int .i64 0, .int .i64 0, .int .i64 0, .int .i64 0, .int .i64 0, .int .i64 0, .int .i64 s.kind, .slice a s.L.length c, .bool s.isSealed, .int .i64 s.to, .int .i64 0] 102)
      have hsz6 : (wr.alloc (.cells #[.int .i64 0, .int .i64 0, .int .i64 0, .int .i64 0, .int .i64 0, .int .i64 0, .int .i64 0, .int .i64 0, .int .i64 s.kind, .slice a s.L.length c, .bool s.isSealed, .int .i64 s.to, .int .i64 0] 102)).heap.size = wr.heap.size + 1 := by simp
      have HA := Lib.hid hA
      have HH0 := Lib.hid hh0
      have HI6 := Lib.hid hI6
      have HBEL := Lib.hid hN.bel
      have HP0 := Lib.hid hp0
      have HW6 := Lib.hid hw6
      have HR6 := Lib.hid hr6
      clear hA hh0 hI6 hN hS hp0 hw6 hr6
      go_wp2_with (go_at_call 52; refine HA.out.mono ?_; rintro e w7 ⟨rfl, vc7, vn7, hE7, hM7, hN7, hO7, hK7, hG7, hf7⟩)
      have nF : ¬ addF be R0.bm wr.heap.size R0.vc R0.vs R0.vn (R0.pa 0) := by
        have hx := (HH0.out.proc 0 (by omega)).blk
        rintro (hf | hf | hf | hf)
        · exact HH0.out.nP (by omega) hf
        · have := hx.lt; omega
        · exact blk_ne HH0.out.eng hx (by decide) hf.symm
        · exact own_blk_ne HH0.out.nodes hx (by decide) hf
      have kW : Keeps (askFH R0 be 0) wr w7 := ((Keeps.refl (askFH R0 be 0) wr).alloc _).trans hK7 (fun q hq => by
        rcases hq with hq | hq | hq | hq
        · exact .inl (.inl (.inl hq))
        · exact .inr (by omega)
        · exact .inl (.inr (.inl hq))
        · exact .inl (.inr (.inr hq)))
      have hFge : ∀ q, askFH R0 be 0 q → w.heap.size ≤ q := by
        have hf := fun q hq => (HH0.out.fresh q hq).1
        rintro q ((hq | rfl) | rfl | hq)
        · exact hf q (by rw [HH0.out.machT q hq]; simp)
        · exact hf _ (by rw [(HH0.out.proc 0 (by omega)).tag]; simp)
        · exact hf _ (by rw [HH0.out.engT]; simp)
        · exact hf q (by rw [HH0.out.nodesT q hq]; simp)
      have hBel7 : Below w.heap.size w w7 := HBEL.out.trans (kW.below hFge HBEL.out.size)
      rw [cellsH_len] at hN7
      have hsz7 := hK7.size
      have hP := HH0.out.addFin (p := 0) (by omega) (fun i hi => by simp at hi) kW (x := newHP) (bf := R0.bef 0) (v := node0 s 0) (vl := .slice a s.L.length c) (HP0.out.keeps hK7 nF) hE7 hM7 hO7 (Nat.le_refl _) hN7 rfl rfl
        (HX.out.below (HBEL.out.trans (((Keeps.refl (askFH R0 be 0) wr).trans kW (fun _ h => .inl h)).below hFge HBEL.out.size)) (Nat.le_refl _)) (fun h0 => rd_block HX.out h0) (fun q hq => (hG7 q hq).imp id (fun h => by omega)) (hf7.imp id (fun hf q hq => by have := hf q hq; omega)) (.int .i64 0)
      obtain ⟨-, R1, hr1, -, -⟩ := hP
      rw [show upd heNone.procs 0 newHP = heNone.procs from upd_self _ 0] at hr1
      have hr : HRep w7 w.heap.size be R1 k s (heOne s) := hr1
      have hmf : ∀ q, machF R1.bm R1.vc R1.vs q → w.heap.size ≤ q := fun q hq => (hr.fresh q (by rw [hr.machT q hq]; simp)).1
      clear hr1 kW hE7 hM7 hN7 hO7 hK7 hG7 hf7 hFge nF HI6 HA HH0 HP0 HW6 HR6 hsz6 hsz7 c0 c1 c2 c3
      have e4 : w7.cell? ⟨be, 4, none⟩ = some (.pointer (some ⟨R1.bm, 0, none⟩)) := hr.eng.cell 4
      have nE := hr.nE
      obtain ⟨gv, cv, e8, gi, gn, nG, nN⟩ := hr.viewNode (i := 0) (by simp)
      obtain ⟨cl, hcl⟩ : ∃ cl : Nat, cl = ncell k 0 := ⟨_, rfl⟩
      have n2 : w7.cell? ⟨R1.na 0, 2, none⟩ = some (.int .i64 (cl : Nat)) := gn 0 cl (by decide) hcl
      have hcb : cl < 2 * k + 3 * (heOne s).nodes.length := by rw [hcl]; simp [ncell]
      have hWr := wr_h hr.mach.drew (heZero k s) hcb (-1) 1 rfl (fun j hj => by rw [hcl]; exact cval_zero k s j)
      have e8' : w7.cell? ⟨be, 8, none⟩ = some (.slice (some ⟨gv, 0, none⟩) 1 cv) := e8
      have HWR := Lib.hid hWr
      have HRR := Lib.hid hr
      have HBE7 := Lib.hid hBel7
      have HMF := Lib.hid hmf
      clear hcl hWr hr gn hBel7 hmf e8
      go_wp2_with fail
      refine start_ (n := 14) (S := fun w' => w'.cell? ⟨be, 4, none⟩ = some (.pointer (some ⟨R1.bm, 0, none⟩)) ∧ w'.cell? ⟨be, 8, none⟩ = some (.slice (some ⟨gv, 0, none⟩) 1 cv) ∧ w'.cell? ⟨gv, 0, none⟩ = some (.pointer (some ⟨R1.na 0, 0, none⟩)) ∧ w'.cell? ⟨R1.na 0, 2, none⟩ = some (.int .i64 (cl : Nat))) (ds := []) #[false, false, false, false, false, false, false, false, false, false, false, false, false, false] (by kernel_rfl) rfl rfl ⟨e4, e8', gi, n2⟩ (fun hHeld => ?_)
      refine pure_ (i := 0) (N := some 65) (v := ?_) (a' := ?_) #[true, false, false, false, false, false, false, false, false, false, false, false, false, false] rfl rfl (by kernel_rfl) (fun _ _ _ h => h) (Or.inl ⟨by rfl, ?_⟩) ?_ ?_
      rotate_left
      · intro w'
        go_simp
        with_reducible rfl
      rotate_left
      · simp only [Act.put, nA, nB, nC, i64_w, i32_w]
        rfl
      refine pure_ (i := 1) (N := some 66) (v := ?_) (a' := ?_) #[true, true, false, false, false, false, false, false, false, false, false, false, false, false] rfl rfl (by kernel_rfl) (fun _ _ _ h => h) (Or.inl ⟨by rfl, ?_⟩) ?_ ?_
      rotate_left
      · intro w'
        go_simp
        with_reducible rfl
      rotate_left
      · simp only [Act.put, nA, nB, nC, i64_w, i32_w]
        rfl
      refine pure_ (i := 2) (N := some 67) (v := ?_) (a' := ?_) #[true, true, true, false, false, false, false, false, false, false, false, false, false, false] rfl rfl (by kernel_rfl) (fun _ _ _ h => h) (Or.inl ⟨by rfl, ?_⟩) ?_ ?_
      rotate_left
      · intro w'
        go_simp
        with_reducible rfl
      rotate_left
      · simp only [Act.put, nA, nB, nC, i64_w, i32_w]
        rfl
      refine pure_ (i := 4) (N := some 69) (v := ?_) (a' := ?_) #[true, true, true, false, true, false, false, false, false, false, false, false, false, false] rfl rfl (by kernel_rfl) (fun _ _ _ h => h) (Or.inl ⟨by rfl, ?_⟩) ?_ ?_
      rotate_left
      · intro w'
        go_simp
        with_reducible rfl
      rotate_left
      · simp only [Act.put, nA, nB, nC, i64_w, i32_w]
        rfl
      refine pure_ (i := 5) (N := some 70) (v := ?_) (a' := ?_) #[true, true, true, false, true, true, false, false, false, false, false, false, false, false] rfl rfl (by kernel_rfl) (fun _ _ _ h => h) (Or.inl ⟨by rfl, ?_⟩) ?_ ?_
      rotate_left
      · intro w'
        go_simp
        with_reducible rfl
      rotate_left
      · simp only [Act.put, nA, nB, nC, i64_w, i32_w]
        rfl
      refine pure_ (i := 6) (N := some 71) (v := ?_) (a' := ?_) #[true, true, true, false, true, true, true, false, false, false, false, false, false, false] rfl rfl (by kernel_rfl) (fun _ _ _ h => h) (Or.inl ⟨by rfl, ?_⟩) ?_ ?_
      rotate_left
      · intro w'
        go_simp
        with_reducible rfl
      rotate_left
      · simp only [Act.put, nA, nB, nC, i64_w, i32_w]
        rfl
      refine take_ (i := 3) (N := some 68) (v := ?_) (a' := ?_) #[true, true, true, true, true, true, true, false, false, false, false, false, false, false] rfl rfl (by kernel_rfl) (fun _ _ _ h => h) (Or.inl ⟨by rfl, ?_⟩) hHeld ?_ ?_
      rotate_left
      · rintro w' ⟨s0, s1, s2, s3⟩
        go_simp
        with_reducible rfl
      rotate_left
      · simp only [Act.put, nA, nB, nC, i64_w, i32_w]
        rfl
      refine take_ (i := 7) (N := some 72) (v := ?_) (a' := ?_) #[true, true, true, true, true, true, true, true, false, false, false, false, false, false] rfl rfl (by kernel_rfl) (fun _ _ _ h => h) (Or.inl ⟨by rfl, ?_⟩) hHeld ?_ ?_
      rotate_left
      · rintro w' ⟨s0, s1, s2, s3⟩
        go_simp
        with_reducible rfl
      rotate_left
      · simp only [Act.put, nA, nB, nC, i64_w, i32_w]
        rfl
      refine pure_ (i := 8) (N := some 73) (v := ?_) (a' := ?_) #[true, true, true, true, true, true, true, true, true, false, false, false, false, false] rfl rfl (by kernel_rfl) (fun _ _ _ h => h) (Or.inl ⟨by rfl, ?_⟩) ?_ ?_
      rotate_left
      · intro w'
        go_simp
        with_reducible rfl
      rotate_left
      · simp only [Act.put, nA, nB, nC, i64_w, i32_w]
        rfl
      refine take_ (i := 9) (N := some 74) (v := ?_) (a' := ?_) #[true, true, true, true, true, true, true, true, true, true, false, false, false, false] rfl rfl (by kernel_rfl) (fun _ _ _ h => h) (Or.inl ⟨by rfl, ?_⟩) hHeld ?_ ?_
      rotate_left
      · rintro w' ⟨s0, s1, s2, s3⟩
        go_simp
        with_reducible rfl
      rotate_left
      · simp only [Act.put, nA, nB, nC, i64_w, i32_w]
        rfl
      refine pure_ (i := 10) (N := some 75) (v := ?_) (a' := ?_) #[true, true, true, true, true, true, true, true, true, true, true, false, false, false] rfl rfl (by kernel_rfl) (fun _ _ _ h => h) (Or.inl ⟨by rfl, ?_⟩) ?_ ?_
      rotate_left
      · intro w'
        go_simp
        with_reducible rfl
      rotate_left
      · simp only [Act.put, nA, nB, nC, i64_w, i32_w]
        rfl
      refine pure_ (i := 11) (N := some 76) (v := ?_) (a' := ?_) #[true, true, true, true, true, true, true, true, true, true, true, true, false, false] rfl rfl (by kernel_rfl) (fun _ _ _ h => h) (Or.inl ⟨by rfl, ?_⟩) ?_ ?_
      rotate_left
      · intro w'
        go_simp
        with_reducible rfl
      rotate_left
      · simp only [Act.put, nA, nB, nC, i64_w, i32_w]
        rfl
      refine take_ (i := 12) (N := some 77) (v := ?_) (a' := ?_) #[true, true, true, true, true, true, true, true, true, true, true, true, true, false] rfl rfl (by kernel_rfl) (fun _ _ _ h => h) (Or.inl ⟨by rfl, ?_⟩) hHeld ?_ ?_
      rotate_left
      · rintro w' ⟨s0, s1, s2, s3⟩
        go_simp
        with_reducible rfl
      rotate_left
      · simp only [Act.put, nA, nB, nC, i64_w, i32_w]
        rfl
      refine one_ (i := 13) (N := some 78) #[true, true, true, true, true, true, true, true, true, true, true, true, true, true] rfl rfl (by kernel_rfl) (by decide) (fun K hK => ?_)
      refine goes_ Try.func53 (by kernel_rfl) rfl #[.pointer (some ⟨R1.bm, 0, none⟩), .int .i64 (-1), .int .i64 cl, .int .i64 1] (by rfl) rfl rfl (by simp only [List.map_toArray, List.map_cons, List.map_nil]; rfl) ?_
      with_reducible refine (HWR.out).mono ?_
      rintro e w9 ⟨rfl, ⟨s9, hM9⟩, hK9⟩
      refine ⟨_, rfl, ?_⟩
      try clear hHeld
      refine hK.out _ _ ⟨hK9.cellSome nE e4, hK9.cellSome nE e8', hK9.cellSome nG gi, hK9.cellSome nN n2⟩ (fun hHeld => ?_)
      clear hK K
      refine norm_ (a' := ?_) ?_ ?_
      rotate_left
      · show Act.put _ (some 78) _ = _
        simp only [Act.put, nA, nB, nC, i64_w, i32_w]
        rfl
      try clear hHeld
      refine done_ (by kernel_rfl) ?_
      go_wp2_with fail
      go_ret2
      have hK : Keeps (machF R1.bm R1.vc R1.vs) w7 w9 := (Keeps.refl _ _).drew.trans' hK9
      have hX := (HRR.out.proc 0 (by omega)).blk.keeps hK (HRR.out.nP (by omega))
      have ht := HRR.out.turn (p := 0) (by omega) (hK.mono fun q hq => .inl hq) (fun _ => 0) (fun _ => 0) [0] [node0 s 1] s9 rfl (fun i hi => by
        have : i = 0 := by simp at hi; omega
        subst this
        exact ⟨1, false, rfl⟩) newHP (R1.bef 0) (by rw [show upd (heOne s).procs 0 newHP = fun _ => newHP from upd_self _ 0]; exact hM9) hX
      rw [show upd (heOne s).procs 0 newHP = fun _ => newHP from upd_self _ 0] at ht
      exact ⟨be, _, rfl, ht, HBE7.out.trans (hK.below HMF.out HBE7.out.size)⟩
end Go.Proofs.Ytjfenjnnpikkdaa
