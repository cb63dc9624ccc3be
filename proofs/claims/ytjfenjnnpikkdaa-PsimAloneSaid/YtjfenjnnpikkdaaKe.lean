/-
  Package psim: New.
-/
import Derived.Test.YtjfenjnnpikkdaaKa
import Derived.Test.YtjfenjnnpikkdaaKb
import Derived.Test.YtjfenjnnpikkdaaKd
namespace Go.Proofs.Ytjfenjnnpikkdaa
set_option linter.unusedVariables false
set_option maxRecDepth 100000
set_option linter.unusedSimpArgs false
open Go.RowKit
open Go.Proofs.YtjfenjnnpikkdaaW.PrintLast

/-- What New leaves of a state that may be. -/
def NewE (w : World) (n : Nat) (start : St) (e : Ending) (w' : World) : Prop :=
  ∃ be R, e = .returned (.tuple #[.pointer (some ⟨be, 0, none⟩), .int .i64 0]) ∧ PRep w' w.heap.size be R n (PS.new start) ∧ Below w.heap.size w w'

set_option maxRecDepth 100000 in
set_option maxHeartbeats 3200000 in
theorem ps_new_no {w : World} {vl : Value} (s : St) (hx : Rd w vl s.L) (n : Int) (hno : mayB s = false ∨ n < 1 ∨ 64 < n) :
    Calls Try.prog 15 #[.agg #[.int .i64 s.kind, vl, .bool s.isSealed, .int .i64 s.to], .int .i64 n] w fun e w' => e = .returned (.tuple #[.pointer none, .int .i64 1]) ∧ Below w.heap.size w w' := by
  obtain ⟨a, c, rfl, _⟩ := id hx
  have hb1 : Below w.heap.size w (w.alloc (.cells #[.int .i64 s.kind, .slice a s.L.length c, .bool s.isSealed, .int .i64 s.to] 24)) := (Below.refl _ _).alloc (Nat.le_refl _) _
  have hm := o_may_any (w := (w.alloc (.cells #[.int .i64 s.kind, .slice a s.L.length c, .bool s.isSealed, .int .i64 s.to] 24))) s (hx.alloc _)
  have HB := Lib.hid hb1
  by_cases h1 : mayB s = false
  · rw [h1] at hm
    have HM := Lib.hid hm
    clear hx hb1 hm h1 hno
    go_enter Try.func15, Try.ntmps15
    go_wp2_with (go_at_call 37; refine HM.out.mono ?_; rintro e w3 ⟨rfl, hb3⟩; have H3 := Lib.hid hb3; clear hb3)
    go_ret2
    exact ⟨rfl, HB.out.trans (H3.out.mono (by simp))⟩
  · have h1' : mayB s = true := by simpa using h1
    rw [h1'] at hm
    have HM := Lib.hid hm
    have h2 := hno.resolve_left h1
    clear hx hb1 hm h1 h1' hno
    by_cases h3 : n < 1
    · have d3 : decide (n < 1) = true := decide_eq_true h3
      clear h2
      go_enter Try.func15, Try.ntmps15
      go_wp2_with (go_at_call 37; refine HM.out.mono ?_; rintro e w3 ⟨rfl, hb3⟩; have H3 := Lib.hid hb3; clear hb3)
      go_ret2
      exact ⟨rfl, HB.out.trans (H3.out.mono (by simp))⟩
    · have h4 := h2.resolve_left h3
      have d3 : decide (n < 1) = false := decide_eq_false h3
      have d4 : decide (64 < n) = true := decide_eq_true h4
      clear h2 h3
      go_enter Try.func15, Try.ntmps15
      go_wp2_with (go_at_call 37; refine HM.out.mono ?_; rintro e w3 ⟨rfl, hb3⟩; have H3 := Lib.hid hb3; clear hb3)
      go_ret2
      exact ⟨rfl, HB.out.trans (H3.out.mono (by simp))⟩

theorem infoPtr : (Try.prog.info? 78).map (fun i => (i.zero, i.size, i.bytes)) = some (some (.pointer none), 1, 8) := by kernel_rfl
theorem infoInt1 : (Try.prog.info? 3).map (fun i => (i.zero, i.size, i.bytes)) = some (some (.int .i64 0), 1, 8) := by kernel_rfl
theorem mach_cellsA {w : World} {bm : Nat} {vc vs : Value} {S : List Int} (h : Mach w bm vc vs ⟨[], S⟩) (n : Nat) (hn : n ≤ 64) :
    Calls Try.prog 39 #[.pointer (some ⟨bm, 0, none⟩), .int .i64 n] w fun e w' =>
      e = .returned (.int .i64 0) ∧ ∃ vc', Mach w' bm vc' vs ⟨List.replicate n 0, S⟩ ∧ Keeps (machF bm vc vs) w w' ∧ (∀ k, machF bm vc' vs k → machF bm vc vs k ∨ w.heap.size ≤ k) := by
  have := mach_cells h n (by simp)
  rw [if_pos (by omega)] at this
  refine this.mono ?_
  rintro e w' ⟨rfl, vc', h1, h2, h3⟩
  exact ⟨rfl, vc', by simpa using h1, h2, h3⟩
theorem mach_cellsB {w : World} {bm : Nat} {vc vs : Value} {S : List Int} {n : Nat} (h : Mach w bm vc vs ⟨List.replicate n 0, S⟩) (hn : n ≤ 64) :
    Calls Try.prog 39 #[.pointer (some ⟨bm, 0, none⟩), .int .i64 1] w fun e w' =>
      e = .returned (.int .i64 n) ∧ ∃ vc', Mach w' bm vc' vs ⟨List.replicate (n + 1) 0, S⟩ ∧ Keeps (machF bm vc vs) w w' ∧ (∀ k, machF bm vc' vs k → machF bm vc vs k ∨ w.heap.size ≤ k) := by
  have := mach_cells h 1 (by simp; omega)
  rw [if_pos (by omega)] at this
  refine this.mono ?_
  rintro e w' ⟨rfl, vc', h1, h2, h3⟩
  refine ⟨by simp, vc', ?_, h2, h3⟩
  have e : List.replicate n (0 : Int) ++ List.replicate (Int.toNat 1) 0 = List.replicate (n + 1) 0 := by
    rw [show Int.toNat 1 = 1 from rfl, List.replicate_append_replicate]
  rw [← e]
  exact h1
/-- The machine and the row of what is asked, as New makes them. -/
structure New3 (B : Nat) (w3 : World) (n : Nat) (bm : Nat) (vs : Value) (ga : Nat) (w' : World) : Prop where
  bel : Below w3.heap.size w3 w'
  mach : Mach w' bm (.slice none 0 0) vs ⟨[], List.replicate n 0⟩
  machG : ∀ k, machF bm (.slice none 0 0) vs k → B ≤ k
  gaG : B ≤ ga
  asked : Own w' 91 5 (.slice (some ⟨ga, 0, none⟩) 1 1) 1 (askedV noAsked)
theorem asked_cells : (Value.agg #[.int .i64 0, .int .i64 0, .int .i64 0, .int .i64 0, .int .i64 0]).cells = #[.int .i64 0, .int .i64 0, .int .i64 0, .int .i64 0, .int .i64 0] := by go_simp
theorem madeAsked : (madeCells (Value.agg #[.int .i64 0, .int .i64 0, .int .i64 0, .int .i64 0, .int .i64 0]).cells (1 * 5)).toList = askedV noAsked := by
  rw [asked_cells]
  simp [madeCells, askedV, noAsked]
  rfl
theorem keeps_grown {F : Nat → Prop} {a w w' : World} (h : Keeps F a w) (hg : w.grownBy w' none) : Keeps F a w' := h.grown hg (fun k e => by cases e)
theorem Mach.grown {w w' : World} {bm : Nat} {vc vs : Value} {M : MS} (h : Mach w bm vc vs M) (hg : w.grownBy w' none) : Mach w' bm vc vs M :=
  h.keeps (G := fun _ => False) ((Keeps.refl _ w).grown hg (fun k e => by cases e)) (fun _ _ h => h)

theorem Mach.notF {w : World} {bm b : Nat} {vc vs : Value} {M : MS} {cs : Array Value} {T : TypeId} (h : Mach w bm vc vs M) (hb : Blk w b cs T) (h1 : T ≠ 108) (h2 : T ≠ 3) : ¬ machF bm vc vs b := fun hf => by
  rcases hf with hf | hf | hf
  · exact blk_ne hb h.blk h1 hf
  · exact own_blk_ne h.cells hb (fun e => h2 e.symm) hf
  · exact own_blk_ne h.steps hb (fun e => h2 e.symm) hf
theorem Mach.notO {w : World} {bm : Nat} {vc vs v : Value} {M : MS} {e : TypeId} {s n : Nat} {xs : List Value} (h : Mach w bm vc vs M) (ho : Own w e s v n xs) (h1 : e ≠ 108) (h2 : e ≠ 3) : ∀ q, v.ownBlock = some q → ¬ machF bm vc vs q := fun q hq hf => by
  rcases hf with hf | hf | hf
  · subst hf; exact own_blk_ne ho h.blk h1 hq
  · exact own_type_ne ho h.cells h2 hq hf
  · exact own_type_ne ho h.steps h2 hq hf
/-- Two rows of k noughts behind a world. -/
structure NewV (w : World) (k gl gr : Nat) (w' : World) : Prop where
  keeps : Keeps (fun _ => False) w w'
  ol : Own w' 3 1 (.slice (some ⟨gl, 0, none⟩) k k) k (madeCells (Value.int .i64 0).cells (k * 1)).toList
  or : Own w' 3 1 (.slice (some ⟨gr, 0, none⟩) k k) k (madeCells (Value.int .i64 0).cells (k * 1)).toList
  lG : w.heap.size ≤ gl
  rG : w.heap.size ≤ gr
/-- The engine as New makes it, behind k of the processes. -/
structure NewL (w : World) (n be bm : Nat) (vc vs va : Value) (k : Nat) (vp : Value) (pa : Nat → Nat) (w' : World) : Prop where
  bel : Below w.heap.size w w'
  eng : Blk w' be #[ptrV bm, .int .i64 0, .int .i64 n, vp, va, .slice none 0 0] 76
  engG : w.heap.size ≤ be
  mach : Mach w' bm vc vs ⟨List.replicate (n + 1) 0, List.replicate n 0⟩
  machG : ∀ k, machF bm vc vs k → w.heap.size ≤ k
  asked : Own w' 91 5 va 1 (askedV noAsked)
  askedG : Fresh w.heap.size va
  procs : Own w' 78 1 vp k ((List.range k).map fun p => ptrV (pa p))
  procsG : Fresh w.heap.size vp
  proc : ∀ p, p < k → Blk w' (pa p) (procV be p newPr 0 .nilFunc (.slice none 0 0)) 81
  procG : ∀ p, p < k → w.heap.size ≤ pa p
  inj : ∀ p q, p < k → q < k → pa p = pa q → p = q
theorem NewL.keeps {w w1 w2 : World} {n be bm k : Nat} {vc vs va vp : Value} {pa : Nat → Nat} (h : NewL w n be bm vc vs va k vp pa w1) (kk : Keeps (fun _ => False) w1 w2) : NewL w n be bm vc vs va k vp pa w2 :=
  ⟨h.bel.trans (kk.below (fun _ h => h.elim) h.bel.size), h.eng.keeps kk id, h.engG, h.mach.keeps kk (fun _ _ => id), h.machG, own_keeps h.asked kk (fun _ _ => id), h.askedG, own_keeps h.procs kk (fun _ _ => id), h.procsG, fun p hp => (h.proc p hp).keeps kk id, h.procG, h.inj⟩
theorem NewL.next {w w1 w2 : World} {n be bm k b : Nat} {vc vs va vp vp' : Value} {pa : Nat → Nat} (h : NewL w n be bm vc vs va k vp pa w1) (hb : Blk w1 b (procV be k newPr 0 .nilFunc (.slice none 0 0)) 81) (hbG : w.heap.size ≤ b) (hnew : ∀ p, p < k → pa p ≠ b)
    (hO : Own w2 78 1 vp' (k + 1) ((List.range k).map (fun p => ptrV (pa p)) ++ [ptrV b])) (hg : w1.grownBy w2 vp.ownBlock) (hat : vp'.ownBlock = vp.ownBlock ∨ vp'.ownBlock = some w1.heap.size) :
    NewL w n be bm vc vs va (k + 1) vp' (fun p => if p = k then b else pa p) (w2.setCell ⟨be, 3, none⟩ vp') := by
  have kk : Keeps (fun q => vp.ownBlock = some q) w1 w2 := (Keeps.refl _ w1).grown hg (fun k e => .inl e)
  have nB : ∀ {b : Nat} {cs : Array Value} {T : TypeId}, Blk w1 b cs T → 78 ≠ T → ¬ vp.ownBlock = some b := fun hb hT => own_blk_ne h.procs hb hT
  have hE2 := h.eng.keeps kk (nB h.eng (by decide))
  have hM2 := h.mach.keeps kk (fun q hq e => by
    rcases hq with rfl | hq | hq
    · exact nB h.mach.blk (by decide) e
    · exact own_type_ne h.mach.cells h.procs (by decide) hq e
    · exact own_type_ne h.mach.steps h.procs (by decide) hq e)
  have hA2 := own_keeps h.asked kk (fun q hq e => own_type_ne h.asked h.procs (by decide) hq e)
  refine ⟨?_, by have := hE2.set 3 vp'; simpa using this, h.engG, ?_, h.machG, own_set hA2 hE2 (by decide) 3 vp', h.askedG, ?_, ?_, ?_, ?_, ?_⟩
  · refine h.bel.trans ?_
    have k2 : Keeps (fun q => vp.ownBlock = some q ∨ q = be) w1 _ := (kk.mono (fun q hq => .inl hq)).set be 3 (.inl (.inr rfl)) vp'
    refine k2.below (fun q hq => ?_) h.bel.size
    rcases hq with hq | hq
    · exact h.procsG q hq
    · subst hq; exact h.engG
  · exact hM2.other (a := ⟨be, 3, none⟩) (fun hf => by
      rcases hf with hf | hf | hf
      · exact blk_ne hE2 hM2.blk (by decide) hf
      · exact own_blk_ne hM2.cells hE2 (by decide) hf
      · exact own_blk_ne hM2.steps hE2 (by decide) hf) vp'
  · have := own_set hO hE2 (by decide) 3 vp'
    have e : ((List.range (k + 1)).map fun p => ptrV (if p = k then b else pa p)) = (List.range k).map (fun p => ptrV (pa p)) ++ [ptrV b] := by
      rw [List.range_succ, List.map_append]
      congr 1
      · apply List.map_congr_left
        intro p hp
        rw [if_neg (by have := List.mem_range.1 hp; omega)]
      · simp
    rw [e]
    exact this
  · intro q hq
    rcases hat with e | e <;> rw [e] at hq
    · exact h.procsG q hq
    · injection hq with hq
      have := h.bel.size
      omega
  · intro p hp
    by_cases e : p = k
    · subst e
      rw [if_pos rfl]
      exact (hb.keeps kk (nB hb (by decide))).other (a := ⟨be, 3, none⟩) (blk_ne hb h.eng (by decide)) vp'
    · rw [if_neg e]
      have hbp := h.proc p (by omega)
      exact (hbp.keeps kk (nB hbp (by decide))).other (a := ⟨be, 3, none⟩) (blk_ne hbp h.eng (by decide)) vp'
  · intro p hp
    split
    · exact hbG
    · exact h.procG p (by omega)
  · intro p q hp hq e
    split at e <;> split at e
    · omega
    · exact (hnew q (by omega) e.symm).elim
    · exact (hnew p (by omega) e).elim
    · exact h.inj p q (by omega) (by omega) e

theorem made_zeros (k : Nat) : (madeCells (Value.int .i64 0).cells (k * 1)).toList = List.replicate k (.int .i64 0) := by
  apply List.ext_getElem?
  intro i
  by_cases hi : i < k
  · simp [madeCells, hi, Value.cells, Nat.mod_one]
  · simp [madeCells, hi]
theorem psnew_fin {w wr w1 : World} {n be bm gl gr : Nat} {vc vs va vp vl : Value} {pa : Nat → Nat} {s : St} (hN : NewL w n be bm vc vs va n vp pa wr) (hV : NewV wr n gl gr w1) (hx : Rd w vl s.L) (hn1 : 1 ≤ n) (hn2 : n ≤ 64) :
    NewE w n s (.returned (.tuple #[.pointer (some ⟨be, 0, none⟩), .int .i64 0])) (((w1.alloc (.cells #[.int .i64 s.kind, vl, .bool s.isSealed, .int .i64 s.to, .slice (some ⟨gl, 0, none⟩) n n, .slice (some ⟨gr, 0, none⟩) n n, .slice none 0 0] 84)).alloc
      (.cells #[.pointer (some ⟨w1.heap.size, 0, none⟩)] 82)).setCell ⟨be, 5, none⟩ (.slice (some ⟨w1.heap.size + 1, 0, none⟩) 1 1)) := by
  have k2 : Keeps (fun _ => False) w1 (w1.alloc (.cells #[.int .i64 s.kind, vl, .bool s.isSealed, .int .i64 s.to, .slice (some ⟨gl, 0, none⟩) n n, .slice (some ⟨gr, 0, none⟩) n n, .slice none 0 0] 84)) := (Keeps.refl _ _).alloc _
  have hb2 := Blk.new w1 #[.int .i64 s.kind, vl, .bool s.isSealed, .int .i64 s.to, .slice (some ⟨gl, 0, none⟩) n n, .slice (some ⟨gr, 0, none⟩) n n, .slice none 0 0] 84
  have hl2 := own_keeps hV.ol k2 (fun _ _ h => h)
  have hr2 := own_keeps hV.or k2 (fun _ _ h => h)
  have e2 : (w1.alloc (.cells #[.int .i64 s.kind, vl, .bool s.isSealed, .int .i64 s.to, .slice (some ⟨gl, 0, none⟩) n n, .slice (some ⟨gr, 0, none⟩) n n, .slice none 0 0] 84)).heap.size = w1.heap.size + 1 := by simp
  have kr := hV.keeps.trans' k2
  generalize w1.alloc (.cells #[.int .i64 s.kind, vl, .bool s.isSealed, .int .i64 s.to, .slice (some ⟨gl, 0, none⟩) n n, .slice (some ⟨gr, 0, none⟩) n n, .slice none 0 0] 84) = w2 at *
  have k3 : Keeps (fun _ => False) w2 (w2.alloc (.cells #[.pointer (some ⟨w1.heap.size, 0, none⟩)] 82)) := (Keeps.refl _ _).alloc _
  have hv3 := own_lit w2 82 [ptrV w1.heap.size] (by simp [maxLen])
  have hb3 := hb2.keeps k3 id
  have hl3 := own_keeps hl2 k3 (fun _ _ h => h)
  have hr3 := own_keeps hr2 k3 (fun _ _ h => h)
  have k3r := kr.trans' k3
  rw [e2] at hv3
  change Own (w2.alloc (.cells #[.pointer (some ⟨w1.heap.size, 0, none⟩)] 82)) _ _ _ _ _ at hv3
  generalize w2.alloc (.cells #[.pointer (some ⟨w1.heap.size, 0, none⟩)] 82) = w3 at *
  have hN3 := hN.keeps k3r
  have hE3 := hN3.eng
  have hwr := hN.bel.size
  have h1r := hV.keeps.size
  rw [made_zeros] at hl3 hr3
  refine ⟨be, _, rfl, NewParts.rep (bm := bm) (vc := vc) (vs := vs) (vp := vp) (va := va) (vv := .slice (some ⟨w1.heap.size + 1, 0, none⟩) 1 1) (vl := .slice (some ⟨gl, 0, none⟩) n n) (vr := .slice (some ⟨gr, 0, none⟩) n n) (vL := vl) (steps := List.replicate n 0) (pa := pa) (vb := w1.heap.size) (start := s) ?_, ?_⟩
  · have hbel : Below w.heap.size w (w3.setCell ⟨be, 5, none⟩ (.slice (some ⟨w1.heap.size + 1, 0, none⟩) 1 1)) :=
      hN3.bel.trans (((Keeps.refl (fun q => q = be) w3).set be 5 (.inl rfl) (.slice (some ⟨w1.heap.size + 1, 0, none⟩) 1 1)).below (fun q hq => by subst hq; exact hN.engG) hN3.bel.size)
    refine ⟨⟨by omega, hn2⟩, by have := hE3.set 5 (.slice (some ⟨w1.heap.size + 1, 0, none⟩) 1 1); simpa using this, hN.engG, hN3.mach.other (a := ⟨be, 5, none⟩) (hN3.mach.notF hE3 (by decide) (by decide)) _, hN.machG, own_set hN3.procs hE3 (by decide) 5 _, hN.procsG, fun p hp => (hN3.proc p hp).other (a := ⟨be, 5, none⟩) (blk_ne (hN3.proc p hp) hE3 (by decide)) _, hN.procG, hN.inj,
      own_set hN3.asked hE3 (by decide) 5 _, hN.askedG, own_set hv3 hE3 (by decide) 5 _, ?_, hb3.other (a := ⟨be, 5, none⟩) (blk_ne hb3 hE3 (by decide)) _, by omega, hx.below hbel (Nat.le_refl _), fun h0 => rd_block hx h0, own_set hl3 hE3 (by decide) 5 _, ?_, own_set hr3 hE3 (by decide) 5 _, ?_, ?_, ?_⟩
    · intro k hk; simp only [Value.ownBlock, Option.some.injEq] at hk; omega
    · intro k hk; simp only [Value.ownBlock, Option.some.injEq] at hk; have := hV.lG; omega
    · intro k hk; simp only [Value.ownBlock, Option.some.injEq] at hk; have := hV.rG; omega
    · intro k hk; simp only [Value.ownBlock, Option.some.injEq] at hk; subst hk; exact hN.mach.newNot hV.lG
    · intro k hk; simp only [Value.ownBlock, Option.some.injEq] at hk; subst hk; exact hN.mach.newNot hV.rG
  · exact hN3.bel.trans (((Keeps.refl (fun q => q = be) w3).set be 5 (.inl rfl) (.slice (some ⟨w1.heap.size + 1, 0, none⟩) 1 1)).below (fun q hq => by subst hq; exact hN.engG) hN3.bel.size)

set_option maxRecDepth 100000 in
set_option maxHeartbeats 6400000 in
theorem ps_new {w : World} {vl : Value} (s : St) (hx : Rd w vl s.L) (hl : s.L.length ≤ 300) (n : Nat) (hm1 : mayB s = true) (hn1 : 1 ≤ n) (hn2 : n ≤ 64) :
    Calls Try.prog 15 #[.agg #[.int .i64 s.kind, vl, .bool s.isSealed, .int .i64 s.to], .int .i64 n] w (NewE w n s) := by
  obtain ⟨a, c, rfl, _⟩ := id hx
  have hb1 : Below w.heap.size w (w.alloc (.cells #[.int .i64 s.kind, .slice a s.L.length c, .bool s.isSealed, .int .i64 s.to] 24)) := (Below.refl _ _).alloc (Nat.le_refl _) _
  have hm := o_may (w := (w.alloc (.cells #[.int .i64 s.kind, .slice a s.L.length c, .bool s.isSealed, .int .i64 s.to] 24))) s (hx.alloc _) (by omega)
  have hS1 := Blk.new w #[.int .i64 s.kind, .slice a s.L.length c, .bool s.isSealed, .int .i64 s.to] 24
  rw [hm1] at hm
  have d3 : decide ((n : Int) < 1) = false := decide_eq_false (by omega)
  have d4 : decide (64 < (n : Int)) = false := decide_eq_false (by omega)
  have HM := Lib.hid hm
  have HB := Lib.hid hb1
  have HX := Lib.hid hx
  clear hx hb1 hm hm1
  go_enter Try.func15, Try.ntmps15
  go_wp2_with (go_at_call 37; refine HM.out.mono ?_; rintro e w3 ⟨rfl, hb3⟩; have H3 := HB.out.trans (hb3.mono (by simp)); have hS3 := hS1.below hb3 (by simp))
  clear hb3 hS1
  have hBs : w.heap.size ≤ w3.heap.size := H3.size
  refine start_ (n := 6) (S := fun w' => True) (ds := []) #[false, false, false, false, false, false] (by kernel_rfl) rfl rfl trivial (fun hHeld => ?_)
  refine pure_ (i := 0) (N := some 19) (v := ?_) (a' := ?_) #[true, false, false, false, false, false] rfl rfl (by kernel_rfl) (fun _ _ _ h => h) (Or.inl ⟨by rfl, ?_⟩) ?_ ?_
  rotate_left
  · intro w'
    go_simp
    with_reducible rfl
  rotate_left
  · simp only [Act.put, List.setIfInBounds_toArray, List.set_cons_zero, List.set_cons_succ, i64_w, i32_w]
    rfl
  refine join_ (σ := Nat × Value × Nat) 3 #[true, true, true, false, false, false] (fun s => [(20, .pointer (some ⟨s.1, 0, none⟩)), (21, .slice (some ⟨s.2.2, 0, none⟩) 1 1)]) (fun s w' => New3 w.heap.size w3.drew n s.1 s.2.1 s.2.2 w') ?_ ?_
  rotate_left
  · intro hCont
    refine two_ (i := 1) (j := 2) (Ni := some 20) (Nj := some 21) #[true, true, false, false, false, false] #[true, false, true, false, false, false] rfl rfl rfl rfl (by kernel_rfl) (by decide) (by decide) (fun K hK => ?_) (fun K hK => ?_)
    · skip
      refine goes_ Try.func38 (by kernel_rfl) rfl #[.int .i64 n] (by rfl) rfl rfl (by simp only [List.map_toArray, List.map_cons, List.map_nil]; rfl) ?_
      with_reducible refine (mach_new _ n (by omega)).mono ?_
      rintro e w4 ⟨bm, vs, rfl, hM4, hK4, hG4⟩
      refine ⟨_, rfl, ?_⟩
      try clear hHeld
      refine hK.out _ _ trivial (fun hHeld => ?_)
      clear hK K
      refine norm_ (a' := ?_) ?_ ?_
      rotate_left
      · show Act.put _ (some 20) _ = _
        simp only [Act.put, List.setIfInBounds_toArray, List.set_cons_zero, List.set_cons_succ, i64_w, i32_w]
        rfl
      refine one_ (i := 2) (N := some 21) #[true, true, true, false, false, false] rfl rfl (by kernel_rfl) (by decide) (fun K hK => ?_)
      refine make_own_ rfl rfl _ _ _ rfl 91 _ 5 40 (by rfl) infoAsked .i64 .i64 1 (by rfl) (by rfl) (by decide) (by decide) ?_
      intro w5 hO5 hg5
      try clear hHeld
      refine hK.out _ _ trivial (fun hHeld => ?_)
      clear hK K
      refine norm_ (a' := ?_) ?_ ?_
      rotate_left
      · show Act.put _ (some 21) _ = _
        simp only [Act.put, List.setIfInBounds_toArray, List.set_cons_zero, List.set_cons_succ, i64_w, i32_w]
        rfl
      exact norm_ (by simp only [putAll, Act.put, List.setIfInBounds_toArray, List.set_cons_zero, List.set_cons_succ]) (hCont ⟨bm, vs, w4.heap.size⟩ _ ⟨((keeps_grown hK4 hg5).below (fun _ h => h.elim) (Nat.le_refl _)), hM4.grown hg5, fun k hk => Nat.le_trans hBs (hG4 k hk), Nat.le_trans hBs hK4.size, madeAsked ▸ hO5⟩)
    · skip
      refine make_own_ rfl rfl _ _ _ rfl 91 _ 5 40 (by rfl) infoAsked .i64 .i64 1 (by rfl) (by rfl) (by decide) (by decide) ?_
      intro w5 hO5 hg5
      try clear hHeld
      refine hK.out _ _ trivial (fun hHeld => ?_)
      clear hK K
      refine norm_ (a' := ?_) ?_ ?_
      rotate_left
      · show Act.put _ (some 21) _ = _
        simp only [Act.put, List.setIfInBounds_toArray, List.set_cons_zero, List.set_cons_succ, i64_w, i32_w]
        rfl
      refine one_ (i := 1) (N := some 20) #[true, true, true, false, false, false] rfl rfl (by kernel_rfl) (by decide) (fun K hK => ?_)
      refine goes_ Try.func38 (by kernel_rfl) rfl #[.int .i64 n] (by rfl) rfl rfl (by simp only [List.map_toArray, List.map_cons, List.map_nil]; rfl) ?_
      with_reducible refine (mach_new _ n (by omega)).mono ?_
      rintro e w4 ⟨bm, vs, rfl, hM4, hK4, hG4⟩
      refine ⟨_, rfl, ?_⟩
      try clear hHeld
      refine hK.out _ _ trivial (fun hHeld => ?_)
      clear hK K
      refine norm_ (a' := ?_) ?_ ?_
      rotate_left
      · show Act.put _ (some 20) _ = _
        simp only [Act.put, List.setIfInBounds_toArray, List.set_cons_zero, List.set_cons_succ, i64_w, i32_w]
        rfl
      exact norm_ (by simp only [putAll, Act.put, List.setIfInBounds_toArray, List.set_cons_zero, List.set_cons_succ]) (hCont ⟨bm, vs, w3.drew.heap.size⟩ _ ⟨(Keeps.below (Keeps.trans (keeps_grown (Keeps.refl (fun _ => False) w3.drew) hg5) hK4 (fun _ h => h.elim)) (fun _ h => h.elim) (Nat.le_refl _)), hM4, fun k hk => Nat.le_trans (Nat.le_trans hBs hg5.size) (hG4 k hk), hBs, own_keeps (madeAsked ▸ hO5) hK4 (fun _ _ h => h)⟩)
  rintro ⟨bm, vs, ga⟩ w5 hN5
  have hHeld : True := trivial
  refine norm_ (a' := ?_) ?_ ?_
  rotate_left
  · simp only [putAll, Act.put, List.setIfInBounds_toArray, List.set_cons_zero, List.set_cons_succ]
    rfl
  refine pure_ (i := 3) (N := some 22) (v := ?_) (a' := ?_) #[true, true, true, true, false, false] rfl rfl (by kernel_rfl) (fun _ _ _ h => h) (Or.inl ⟨by rfl, ?_⟩) ?_ ?_
  rotate_left
  · intro w'
    go_simp
    with_reducible rfl
  rotate_left
  · simp only [Act.put, List.setIfInBounds_toArray, List.set_cons_zero, List.set_cons_succ, i64_w, i32_w]
    rfl
  refine one_ (i := 4) (N := some 23) #[true, true, true, true, true, false] rfl rfl (by kernel_rfl) (by decide) (fun K hK => ?_)
  refine value_ (w1 := ?_) (v := ?_) (by rfl) rfl ?_ ?_
  rotate_left 2
  · go_simp
    constructor
    · rfl
    · rfl
  try clear hHeld
  refine hK.out _ _ trivial (fun hHeld => ?_)
  clear hK K
  refine norm_ (a' := ?_) ?_ ?_
  rotate_left
  · show Act.put _ (some 23) _ = _
    simp only [Act.put, List.setIfInBounds_toArray, List.set_cons_zero, List.set_cons_succ, i64_w, i32_w]
    rfl
  refine pure_ (i := 5) (N := some 6) (v := ?_) (a' := ?_) #[true, true, true, true, true, true] rfl rfl (by kernel_rfl) (fun _ _ _ h => h) (Or.inl ⟨by rfl, ?_⟩) ?_ ?_
  rotate_left
  · intro w'
    go_simp
    with_reducible rfl
  rotate_left
  · simp only [Act.put, List.setIfInBounds_toArray, List.set_cons_zero, List.set_cons_succ, i64_w, i32_w]
    rfl
  try clear hHeld
  refine done_ (by kernel_rfl) ?_
  go_wp2_with fail
  have hB5 := H3.drew.trans (hN5.bel.mono hBs)
  have hE6 := Blk.new w5 #[.pointer (some ⟨bm, 0, none⟩), .int .i64 0, .int .i64 0, .slice none 0 0, .slice (some ⟨ga, 0, none⟩) 1 1, .slice none 0 0] 76
  have hB6 : Below w.heap.size w (w5.alloc (.cells #[.pointer (some ⟨bm, 0, none⟩), .int .i64 0, .int .i64 0, .slice none 0 0, .slice (some ⟨ga, 0, none⟩) 1 1, .slice none 0 0] 76)) := hB5.alloc hB5.size _
  have hM6 := hN5.mach.alloc (.cells #[.pointer (some ⟨bm, 0, none⟩), .int .i64 0, .int .i64 0, .slice none 0 0, .slice (some ⟨ga, 0, none⟩) 1 1, .slice none 0 0] 76)
  have hA6 := hN5.asked.alloc (.cells #[.pointer (some ⟨bm, 0, none⟩), .int .i64 0, .int .i64 0, .slice none 0 0, .slice (some ⟨ga, 0, none⟩) 1 1, .slice none 0 0] 76)
  have hBe : w.heap.size ≤ w5.heap.size := hB5.size
  have hmg := hN5.machG
  have hgg := hN5.gaG
  have hX5 := (HX.out.below H3 (Nat.le_refl _))
  have hbox : w.heap.size < w3.heap.size := hS3.lt
  have hS6 := (hS3.drew.below hN5.bel hS3.lt).alloc (.cells #[.pointer (some ⟨bm, 0, none⟩), .int .i64 0, .int .i64 0, .slice none 0 0, .slice (some ⟨ga, 0, none⟩) 1 1, .slice none 0 0] 76)
  clear hN5 H3 hBs hX5 hbox hB5 hS3
  generalize w5.alloc (.cells #[.pointer (some ⟨bm, 0, none⟩), .int .i64 0, .int .i64 0, .slice none 0 0, .slice (some ⟨ga, 0, none⟩) 1 1, .slice none 0 0] 76) = w6 at *
  generalize w5.heap.size = be at *
  have e60 : w6.cell? ⟨be, 0, none⟩ = some (.pointer (some ⟨bm, 0, none⟩)) := hE6.cell 0
  refine start_ (n := 19) (S := fun w' => w'.cell? ⟨be, 0, none⟩ = some (.pointer (some ⟨bm, 0, none⟩))) (ds := [15, 18]) #[false, false, false, false, false, false, false, false, false, false, false, false, false, false, false, false, false, false, false] (by kernel_rfl) rfl rfl (e60) (fun hHeld => ?_)
  refine pure_ (i := 0) (N := some 24) (v := ?_) (a' := ?_) #[true, false, false, false, false, false, false, false, false, false, false, false, false, false, false, false, false, false, false] rfl rfl (by kernel_rfl) (fun _ _ _ h => h) (Or.inl ⟨by rfl, ?_⟩) ?_ ?_
  rotate_left
  · intro w'
    go_simp
    with_reducible rfl
  rotate_left
  · simp only [Act.put, List.setIfInBounds_toArray, List.set_cons_zero, List.set_cons_succ, i64_w, i32_w]
    rfl
  refine pure_ (i := 1) (N := some 25) (v := ?_) (a' := ?_) #[true, true, false, false, false, false, false, false, false, false, false, false, false, false, false, false, false, false, false] rfl rfl (by kernel_rfl) (fun _ _ _ h => h) (Or.inl ⟨by rfl, ?_⟩) ?_ ?_
  rotate_left
  · intro w'
    go_simp
    with_reducible rfl
  rotate_left
  · simp only [Act.put, List.setIfInBounds_toArray, List.set_cons_zero, List.set_cons_succ, i64_w, i32_w]
    rfl
  refine pure_ (i := 2) (N := some 26) (v := ?_) (a' := ?_) #[true, true, true, false, false, false, false, false, false, false, false, false, false, false, false, false, false, false, false] rfl rfl (by kernel_rfl) (fun _ _ _ h => h) (Or.inl ⟨by rfl, ?_⟩) ?_ ?_
  rotate_left
  · intro w'
    go_simp
    with_reducible rfl
  rotate_left
  · simp only [Act.put, List.setIfInBounds_toArray, List.set_cons_zero, List.set_cons_succ, i64_w, i32_w]
    rfl
  refine pure_ (i := 3) (N := some 27) (v := ?_) (a' := ?_) #[true, true, true, true, false, false, false, false, false, false, false, false, false, false, false, false, false, false, false] rfl rfl (by kernel_rfl) (fun _ _ _ h => h) (Or.inl ⟨by rfl, ?_⟩) ?_ ?_
  rotate_left
  · intro w'
    go_simp
    with_reducible rfl
  rotate_left
  · simp only [Act.put, List.setIfInBounds_toArray, List.set_cons_zero, List.set_cons_succ, i64_w, i32_w]
    rfl
  refine pure_ (i := 4) (N := some 28) (v := ?_) (a' := ?_) #[true, true, true, true, true, false, false, false, false, false, false, false, false, false, false, false, false, false, false] rfl rfl (by kernel_rfl) (fun _ _ _ h => h) (Or.inl ⟨by rfl, ?_⟩) ?_ ?_
  rotate_left
  · intro w'
    go_simp
    with_reducible rfl
  rotate_left
  · simp only [Act.put, List.setIfInBounds_toArray, List.set_cons_zero, List.set_cons_succ, i64_w, i32_w]
    rfl
  refine pure_ (i := 6) (N := some 30) (v := ?_) (a' := ?_) #[true, true, true, true, true, false, true, false, false, false, false, false, false, false, false, false, false, false, false] rfl rfl (by kernel_rfl) (fun _ _ _ h => h) (Or.inl ⟨by rfl, ?_⟩) ?_ ?_
  rotate_left
  · intro w'
    go_simp
    with_reducible rfl
  rotate_left
  · simp only [Act.put, List.setIfInBounds_toArray, List.set_cons_zero, List.set_cons_succ, i64_w, i32_w]
    rfl
  refine pure_ (i := 8) (N := some 32) (v := ?_) (a' := ?_) #[true, true, true, true, true, false, true, false, true, false, false, false, false, false, false, false, false, false, false] rfl rfl (by kernel_rfl) (fun _ _ _ h => h) (Or.inl ⟨by rfl, ?_⟩) ?_ ?_
  rotate_left
  · intro w'
    go_simp
    with_reducible rfl
  rotate_left
  · simp only [Act.put, List.setIfInBounds_toArray, List.set_cons_zero, List.set_cons_succ, i64_w, i32_w]
    rfl
  refine pure_ (i := 9) (N := some 33) (v := ?_) (a' := ?_) #[true, true, true, true, true, false, true, false, true, true, false, false, false, false, false, false, false, false, false] rfl rfl (by kernel_rfl) (fun _ _ _ h => h) (Or.inl ⟨by rfl, ?_⟩) ?_ ?_
  rotate_left
  · intro w'
    go_simp
    with_reducible rfl
  rotate_left
  · simp only [Act.put, List.setIfInBounds_toArray, List.set_cons_zero, List.set_cons_succ, i64_w, i32_w]
    rfl
  refine pure_ (i := 10) (N := some 34) (v := ?_) (a' := ?_) #[true, true, true, true, true, false, true, false, true, true, true, false, false, false, false, false, false, false, false] rfl rfl (by kernel_rfl) (fun _ _ _ h => h) (Or.inl ⟨by rfl, ?_⟩) ?_ ?_
  rotate_left
  · intro w'
    go_simp
    with_reducible rfl
  rotate_left
  · simp only [Act.put, List.setIfInBounds_toArray, List.set_cons_zero, List.set_cons_succ, i64_w, i32_w]
    rfl
  refine take_ (i := 5) (N := some 29) (v := ?_) (a' := ?_) #[true, true, true, true, true, true, true, false, true, true, true, false, false, false, false, false, false, false, false] rfl rfl (by kernel_rfl) (fun _ _ _ h => h) (Or.inl ⟨by rfl, ?_⟩) hHeld ?_ ?_
  rotate_left
  · intro w' s0
    go_simp
    with_reducible rfl
  rotate_left
  · simp only [Act.put, List.setIfInBounds_toArray, List.set_cons_zero, List.set_cons_succ, i64_w, i32_w]
    rfl
  refine take_ (i := 11) (N := some 35) (v := ?_) (a' := ?_) #[true, true, true, true, true, true, true, false, true, true, true, true, false, false, false, false, false, false, false] rfl rfl (by kernel_rfl) (fun _ _ _ h => h) (Or.inl ⟨by rfl, ?_⟩) hHeld ?_ ?_
  rotate_left
  · intro w' s0
    go_simp
    with_reducible rfl
  rotate_left
  · simp only [Act.put, List.setIfInBounds_toArray, List.set_cons_zero, List.set_cons_succ, i64_w, i32_w]
    rfl
  refine one_ (i := 7) (N := some 31) #[true, true, true, true, true, true, true, true, true, true, true, true, false, false, false, false, false, false, false] rfl rfl (by kernel_rfl) (by decide) (fun K hK => ?_)
  refine goes_ Try.func39 (by kernel_rfl) rfl #[.pointer (some ⟨bm, 0, none⟩), .int .i64 n] (by rfl) rfl rfl (by simp only [List.map_toArray, List.map_cons, List.map_nil]; rfl) ?_
  with_reducible refine (mach_cellsA hM6.drew n hn2).mono ?_
  rintro e w7 ⟨rfl, vc7, hM7, hK7, hG7⟩
  refine ⟨_, rfl, ?_⟩
  have hE7 := (hE6.drew).keeps hK7 (hM6.notF hE6 (by decide) (by decide))
  have hA7 := own_keeps (own_drew hA6) hK7 (hM6.notO hA6 (by decide) (by decide))
  try clear hHeld
  refine hK.out _ _ ((hE7.cell 0)) (fun hHeld => ?_)
  clear hK K
  refine norm_ (a' := ?_) ?_ ?_
  rotate_left
  · show Act.put _ (some 31) _ = _
    simp only [Act.put, List.setIfInBounds_toArray, List.set_cons_zero, List.set_cons_succ, i64_w, i32_w]
    rfl
  refine one_ (i := 12) (N := some 36) #[true, true, true, true, true, true, true, true, true, true, true, true, true, false, false, false, false, false, false] rfl rfl (by kernel_rfl) (by decide) (fun K hK => ?_)
  refine goes_ Try.func39 (by kernel_rfl) rfl #[.pointer (some ⟨bm, 0, none⟩), .int .i64 1] (by rfl) rfl rfl (by simp only [List.map_toArray, List.map_cons, List.map_nil]; rfl) ?_
  with_reducible refine (mach_cellsB hM7 hn2).mono ?_
  rintro e w8 ⟨rfl, vc8, hM8, hK8, hG8⟩
  refine ⟨_, rfl, ?_⟩
  have hE8 := hE7.keeps hK8 (hM7.notF hE7 (by decide) (by decide))
  have hA8 := own_keeps hA7 hK8 (hM7.notO hA7 (by decide) (by decide))
  have f1 := hE8.frozen 1
  have f2 := hE8.frozen 2
  have v1 : w8.cell? ⟨be, 1, none⟩ = some (.int .i64 0) := hE8.cell 1
  have v2 : w8.cell? ⟨be, 2, none⟩ = some (.int .i64 0) := hE8.cell 2
  try clear hHeld
  refine hK.out _ _ ((hE8.cell 0)) (fun hHeld => ?_)
  clear hK K
  refine norm_ (a' := ?_) ?_ ?_
  rotate_left
  · show Act.put _ (some 36) _ = _
    simp only [Act.put, List.setIfInBounds_toArray, List.set_cons_zero, List.set_cons_succ, i64_w, i32_w]
    rfl
  refine pure_ (i := 13) (N := some 37) (v := ?_) (a' := ?_) #[true, true, true, true, true, true, true, true, true, true, true, true, true, true, false, false, false, false, false] rfl rfl (by kernel_rfl) (fun _ _ _ h => h) (Or.inl ⟨by rfl, ?_⟩) ?_ ?_
  rotate_left
  · intro w'
    go_simp
    with_reducible rfl
  rotate_left
  · simp only [Act.put, List.setIfInBounds_toArray, List.set_cons_zero, List.set_cons_succ, i64_w, i32_w]
    rfl
  refine pure_ (i := 14) (N := some 38) (v := ?_) (a' := ?_) #[true, true, true, true, true, true, true, true, true, true, true, true, true, true, true, false, false, false, false] rfl rfl (by kernel_rfl) (fun _ _ _ h => h) (Or.inl ⟨by rfl, ?_⟩) ?_ ?_
  rotate_left
  · intro w'
    go_simp
    with_reducible rfl
  rotate_left
  · simp only [Act.put, List.setIfInBounds_toArray, List.set_cons_zero, List.set_cons_succ, i64_w, i32_w]
    rfl
  refine last_ (i := 15) (N := none) #[true, true, true, true, true, true, true, true, true, true, true, true, true, true, true, true, false, false, false] rfl rfl (by kernel_rfl) (by decide) (fun K hK => ?_)
  refine skip_ (w1 := ?_) (by rfl) rfl ?_ ?_
  rotate_left
  · go_simp
    rfl
  try clear hHeld
  refine hK.out _ _ ?_
  clear hK K
  refine pure_ (i := 16) (N := some 39) (v := ?_) (a' := ?_) #[true, true, true, true, true, true, true, true, true, true, true, true, true, true, true, true, true, false, false] rfl rfl (by kernel_rfl) (fun _ _ _ h => h) (Or.inl ⟨by rfl, ?_⟩) ?_ ?_
  rotate_left
  · intro w'
    go_simp
    with_reducible rfl
  rotate_left
  · simp only [Act.put, List.setIfInBounds_toArray, List.set_cons_zero, List.set_cons_succ, i64_w, i32_w]
    rfl
  refine pure_ (i := 17) (N := some 40) (v := ?_) (a' := ?_) #[true, true, true, true, true, true, true, true, true, true, true, true, true, true, true, true, true, true, false] rfl rfl (by kernel_rfl) (fun _ _ _ h => h) (Or.inl ⟨by rfl, ?_⟩) ?_ ?_
  rotate_left
  · intro w'
    go_simp
    with_reducible rfl
  rotate_left
  · simp only [Act.put, List.setIfInBounds_toArray, List.set_cons_zero, List.set_cons_succ, i64_w, i32_w]
    rfl
  refine last_ (i := 18) (N := none) #[true, true, true, true, true, true, true, true, true, true, true, true, true, true, true, true, true, true, true] rfl rfl (by kernel_rfl) (by decide) (fun K hK => ?_)
  refine skip_ (w1 := ?_) (by rfl) rfl ?_ ?_
  rotate_left
  · go_simp
    rfl
  try clear hHeld
  refine hK.out _ _ ?_
  clear hK K
  try clear hHeld
  refine done_ (by kernel_rfl) ?_
  go_wp2_with fail
  have hN0 : NewL w n be bm vc8 vs (.slice (some ⟨ga, 0, none⟩) 1 1) 0 (.slice none 0 0) (fun _ => 0) ((w8.setCell ⟨be, 1, none⟩ (.int .i64 0)).setCell ⟨be, 2, none⟩ (.int .i64 n)) := by
    have hE9 := (hE8.set 1 (.int .i64 0)).set 2 (.int .i64 n)
    have hE8' := hE8.set 1 (.int .i64 0)
    have nb := hM8.notF hE8 (by decide) (by decide)
    have b7 := (hB6.drew).trans ((hK7.below (B := w.heap.size) hmg hB6.size))
    have g7 : ∀ k, machF bm vc7 vs k → w.heap.size ≤ k := fun k hk => (hG7 k hk).elim (hmg k) (fun h => Nat.le_trans hB6.size h)
    have b8 := b7.trans ((hK8.below (B := w.heap.size) g7 b7.size))
    have g8 : ∀ k, machF bm vc8 vs k → w.heap.size ≤ k := fun k hk => (hG8 k hk).elim (g7 k) (fun h => Nat.le_trans b7.size h)
    refine ⟨(b8.trans (((Keeps.refl (fun q => q = be) w8).set be 1 (.inl rfl) (.int .i64 0)).below (fun q hq => by subst hq; exact hBe) b8.size)).trans (((Keeps.refl (fun q => q = be) _).set be 2 (.inl rfl) (.int .i64 n)).below (fun q hq => by subst hq; exact hBe) (by simpa using b8.size)), by simpa using hE9, hBe, (hM8.other (a := ⟨be, 1, none⟩) nb _).other (a := ⟨be, 2, none⟩) nb _, g8, own_set (own_set hA8 hE8 (by decide) 1 _) hE8' (by decide) 2 _, fun k hk => by simp only [Value.ownBlock, Option.some.injEq] at hk; subst hk; exact hgg, World.ownsRow_nil .., fun k hk => by simp [Value.ownBlock] at hk, fun p hp => by omega, fun p hp => by omega, fun p q hp => by omega⟩
  have hS9 : Blk ((w8.setCell ⟨be, 1, none⟩ (.int .i64 0)).setCell ⟨be, 2, none⟩ (.int .i64 n)) w.heap.size #[.int .i64 s.kind, .slice a s.L.length c, .bool s.isSealed, .int .i64 s.to] 24 := by
    have n1 := blk_ne hS6 hE6 (by decide)
    have s7 := hS6.drew.keeps hK7 (hM6.notF hS6 (by decide) (by decide))
    have s8 := s7.keeps hK8 (hM7.notF s7 (by decide) (by decide))
    exact (s8.other (a := ⟨be, 1, none⟩) n1 _).other (a := ⟨be, 2, none⟩) n1 _
  clear hE8 hM8 hK8 hG8 hE7 hM7 hK7 hG7 hA7 hA8 hE6 hB6 hM6 hA6 hmg hgg hBe hS6 e60 f1 f2 v1 v2
  generalize (w8.setCell ⟨be, 1, none⟩ (.int .i64 0)).setCell ⟨be, 2, none⟩ (.int .i64 n) = w9 at *
  go_loopw [42] (fun i wr => ∃ (k : Nat) (vp : Value) (pa : Nat → Nat), k ≤ n ∧ i = .int .i64 k ∧ NewL w n be bm vc8 vs (.slice (some ⟨ga, 0, none⟩) 1 1) k vp pa wr ∧ Blk wr w.heap.size #[.int .i64 s.kind, .slice a s.L.length c, .bool s.isSealed, .int .i64 s.to] 24) (fun i _ => n - (intOf i).toNat)
  case atStart => exact ⟨0, _, _, Nat.zero_le _, rfl, hN0, hS9⟩
  case round =>
    obtain ⟨k, vp, pa, hk, rfl, hN, hS⟩ := hrel
    clear hN0 hS9
    by_cases hlt : k < n
    · have d5 : decide ((k : Int) < n) = true := decide_eq_true (by omega)
      have hO := hN.procs
      obtain ⟨ap, cp, evp⟩ := own_shape hO
      have e3 : wr.cell? ⟨be, 3, none⟩ = some vp := hN.eng.cell 3
      rw [evp] at e3
      have hP1 := Blk.new wr (procV be k newPr 0 .nilFunc (.slice none 0 0)) 81
      have hN1 := hN.keeps ((Keeps.refl _ wr).alloc (.cells (procV be k newPr 0 .nilFunc (.slice none 0 0)) 81))
      have hS1 := hS.alloc (.cells (procV be k newPr 0 .nilFunc (.slice none 0 0)) 81)
      have hwb : w.heap.size ≤ wr.heap.size := hN.bel.size
      have hpl : ∀ p, p < k → pa p < wr.heap.size := fun p hp => (hN.proc p hp).lt
      have i64k : IntKind.i64.wrap ((k : Int) + 1) = (k : Int) + 1 := IntWalk.i64_in _ (by omega)
      have HP := Lib.hid hP1
      have HN1 := Lib.hid hN1
      have HS1 := Lib.hid hS1
      have HE := Lib.hid evp
      clear hN hS hP1 hN1 hS1 evp hO
      obtain ⟨i0, hi, hz0, hz1, hz2⟩ := info_parts infoPtr
      have hnew : ∀ (j : Nat) (u : Value), [Value.pointer (some ⟨wr.heap.size, 0, none⟩)][j]? = some u → ((wr.alloc (.cells (procV be k newPr 0 .nilFunc (.slice none 0 0)) 81)).alloc (.cells #[.pointer (some ⟨wr.heap.size, 0, none⟩)] 78)).cell? ((⟨wr.heap.size + 1, 0, none⟩ : Addr).add j) = some u := by
        have := cell_one_new (wr.alloc (.cells (procV be k newPr 0 .nilFunc (.slice none 0 0)) 81)) (.pointer (some ⟨wr.heap.size, 0, none⟩)) 78
        rwa [World.size_alloc] at this
      have HNEW := Lib.hid hnew
      clear hnew
      have hf3 := HN1.out.eng.alloc (.cells #[.pointer (some ⟨wr.heap.size, 0, none⟩)] 78)
      have HF3 := Lib.hid hf3
      clear hf3
      go_wp2_with (at_builtin; refine wpList_append_own_at _ rfl _ _ 73 rfl 0 78 i0 (.pointer none) 1 8 Try.underlying73 hi hz0 hz1 hz2 rfl (by decide) (.slice ap k cp) _ _ rfl (by rw [← HE.out]; exact HN1.out.procs.alloc _) ⟨wr.heap.size + 1, 0, none⟩ 1 1 [.pointer (some ⟨wr.heap.size, 0, none⟩)] rfl (by simp) HNEW.out (by intro u hu; simp at hu; subst hu; rfl) (by simp only [maxLen]; omega) (by omega) (Nat.zero_le _) ?_; intro v' w5 hown hgrow hnil hat; obtain ⟨a1, c1, rfl⟩ := own_shape hown; have hE5 := HF3.out.keeps ((Keeps.refl (fun q => (Value.slice ap k cp).ownBlock = some q) _).grown hgrow (fun q e => .inl e)) (fun e => own_blk_ne HN1.out.procs HN1.out.eng (by decide) (by rw [HE.out]; exact e)); have c3 : w5.cell? ⟨be, 3, none⟩ = some vp := hE5.cell 3; rw [HE.out] at c3; have fz3 := hE5.frozen 3; have HOWN := Lib.hid hown; have HGROW := Lib.hid hgrow; have HAT := Lib.hid hat; clear hown hgrow hat hnil hE5 e3)
      go_roundw
      case rel =>
        have hN2 := HN1.out.keeps ((Keeps.refl _ _).alloc (.cells #[.pointer (some ⟨wr.heap.size, 0, none⟩)] 78))
        have hS2 := HS1.out.alloc (.cells #[.pointer (some ⟨wr.heap.size, 0, none⟩)] 78)
        have hP2 := HP.out.alloc (.cells #[.pointer (some ⟨wr.heap.size, 0, none⟩)] 78)
        have hg := HGROW.out
        rw [← HE.out] at hg
        have hat := HAT.out
        rw [← HE.out] at hat
        have hfin := hN2.next hP2 hwb (fun p hp => by have := hpl p hp; omega) HOWN.out hg hat
        refine ⟨k + 1, _, _, by omega, by go_num, hfin, ?_⟩
        have hS5 := hS2.keeps ((Keeps.refl (fun q => vp.ownBlock = some q) _).grown hg (fun q e => .inl e)) (own_blk_ne hN2.procs hS2 (by decide))
        exact hS5.other (a := ⟨be, 3, none⟩) (blk_ne hS2 hN2.eng (by decide)) _
      case measure => simp [intOf]; omega
    · have d5 : decide ((k : Int) < n) = false := decide_eq_false (by omega)
      have hkn : k = n := by omega
      subst hkn
      have c0 : wr.cell? ⟨w.heap.size, 0, none⟩ = some (.int .i64 s.kind) := hS.cell 0
      have c1 : wr.cell? ⟨w.heap.size, 1, none⟩ = some (.slice a s.L.length c) := hS.cell 1
      have c2 : wr.cell? ⟨w.heap.size, 2, none⟩ = some (.bool s.isSealed) := hS.cell 2
      have c3 : wr.cell? ⟨w.heap.size, 3, none⟩ = some (.int .i64 s.to) := hS.cell 3
      have HN := Lib.hid hN
      have hHS := Lib.hid hS
      have fe5 : ∀ w', Keeps (fun _ => False) wr w' → w'.frozen? ⟨be, 5, none⟩ = false := fun w' kk => (HN.out.eng.keeps kk id).frozen 5
      have ce5 : ∀ w', Keeps (fun _ => False) wr w' → w'.cell? ⟨be, 5, none⟩ = some (.slice none 0 0) := fun w' kk => (HN.out.eng.keeps kk id).cell 5
      clear hN
      go_wp2_with fail
      have K0 : Keeps (fun _ => False) wr wr.drew := (Keeps.refl _ _).drew
      refine start_ (n := 12) (S := fun w' => w'.cell? ⟨w.heap.size, 0, none⟩ = some (.int .i64 s.kind) ∧ w'.cell? ⟨w.heap.size, 1, none⟩ = some (.slice a s.L.length c) ∧ w'.cell? ⟨w.heap.size, 2, none⟩ = some (.bool s.isSealed) ∧ w'.cell? ⟨w.heap.size, 3, none⟩ = some (.int .i64 s.to)) (ds := [11]) #[false, false, false, false, false, false, false, false, false, false, false, false] (by kernel_rfl) rfl rfl ⟨c0, c1, c2, c3⟩ (fun hHeld => ?_)
      refine pure_ (i := 0) (N := some 59) (v := ?_) (a' := ?_) #[true, false, false, false, false, false, false, false, false, false, false, false] rfl rfl (by kernel_rfl) (fun _ _ _ h => h) (Or.inl ⟨by rfl, ?_⟩) ?_ ?_
      rotate_left
      · intro w'
        go_simp
        with_reducible rfl
      rotate_left
      · simp only [Act.put, List.setIfInBounds_toArray, List.set_cons_zero, List.set_cons_succ, i64_w, i32_w]
        rfl
      refine pure_ (i := 2) (N := some 61) (v := ?_) (a' := ?_) #[true, false, true, false, false, false, false, false, false, false, false, false] rfl rfl (by kernel_rfl) (fun _ _ _ h => h) (Or.inl ⟨by rfl, ?_⟩) ?_ ?_
      rotate_left
      · intro w'
        go_simp
        with_reducible rfl
      rotate_left
      · simp only [Act.put, List.setIfInBounds_toArray, List.set_cons_zero, List.set_cons_succ, i64_w, i32_w]
        rfl
      refine pure_ (i := 4) (N := some 63) (v := ?_) (a' := ?_) #[true, false, true, false, true, false, false, false, false, false, false, false] rfl rfl (by kernel_rfl) (fun _ _ _ h => h) (Or.inl ⟨by rfl, ?_⟩) ?_ ?_
      rotate_left
      · intro w'
        go_simp
        with_reducible rfl
      rotate_left
      · simp only [Act.put, List.setIfInBounds_toArray, List.set_cons_zero, List.set_cons_succ, i64_w, i32_w]
        rfl
      refine take_ (i := 1) (N := some 60) (v := ?_) (a' := ?_) #[true, true, true, false, true, false, false, false, false, false, false, false] rfl rfl (by kernel_rfl) (fun _ _ _ h => h) (Or.inl ⟨by rfl, ?_⟩) hHeld ?_ ?_
      rotate_left
      · rintro w' ⟨s0, s1, s2, s3⟩
        go_simp
        with_reducible rfl
      rotate_left
      · simp only [Act.put, List.setIfInBounds_toArray, List.set_cons_zero, List.set_cons_succ, i64_w, i32_w]
        rfl
      refine join_ (σ := Nat × Nat) 6 #[true, true, true, true, true, true, false, false, false, false, false, false] (fun s => [(62, .slice (some ⟨s.1, 0, none⟩) k k), (64, .slice (some ⟨s.2, 0, none⟩) k k)]) (fun s w' => NewV wr k s.1 s.2 w') ?_ ?_
      rotate_left
      · intro hCont
        refine two_ (i := 3) (j := 5) (Ni := some 62) (Nj := some 64) #[true, true, true, true, true, false, false, false, false, false, false, false] #[true, true, true, false, true, true, false, false, false, false, false, false] rfl rfl rfl rfl (by kernel_rfl) (by decide) (by decide) (fun K hK => ?_) (fun K hK => ?_)
        · skip
          refine make_own_ rfl rfl _ _ _ rfl 3 _ 1 8 (by rfl) infoInt1 .i64 .i64 k (by rfl) (by rfl) (by omega) (by decide) ?_
          intro wa hOa hga
          have Ka := keeps_grown K0 hga
          try clear hHeld
          refine hK.out _ _ ⟨(Ka.cellSome (fun h => h) c0), (Ka.cellSome (fun h => h) c1), (Ka.cellSome (fun h => h) c2), (Ka.cellSome (fun h => h) c3)⟩ (fun hHeld => ?_)
          clear hK K
          refine norm_ (a' := ?_) ?_ ?_
          rotate_left
          · show Act.put _ (some 62) _ = _
            simp only [Act.put, List.setIfInBounds_toArray, List.set_cons_zero, List.set_cons_succ, i64_w, i32_w]
            rfl
          refine one_ (i := 5) (N := some 64) #[true, true, true, true, true, true, false, false, false, false, false, false] rfl rfl (by kernel_rfl) (by decide) (fun K hK => ?_)
          refine make_own_ rfl rfl _ _ _ rfl 3 _ 1 8 (by rfl) infoInt1 .i64 .i64 k (by rfl) (by rfl) (by omega) (by decide) ?_
          intro wb hOb hgb
          have Kb := keeps_grown Ka hgb
          try clear hHeld
          refine hK.out _ _ ⟨(Kb.cellSome (fun h => h) c0), (Kb.cellSome (fun h => h) c1), (Kb.cellSome (fun h => h) c2), (Kb.cellSome (fun h => h) c3)⟩ (fun hHeld => ?_)
          clear hK K
          refine norm_ (a' := ?_) ?_ ?_
          rotate_left
          · show Act.put _ (some 64) _ = _
            simp only [Act.put, List.setIfInBounds_toArray, List.set_cons_zero, List.set_cons_succ, i64_w, i32_w]
            rfl
          exact norm_ (by simp only [putAll, Act.put, List.setIfInBounds_toArray, List.set_cons_zero, List.set_cons_succ]) (hCont ⟨wr.drew.heap.size, wa.heap.size⟩ _ ⟨Kb, own_keeps hOa (keeps_grown (Keeps.refl (fun _ => False) _) hgb) (fun _ _ h => h), hOb, Nat.le_refl _, Ka.size⟩)
        · skip
          refine make_own_ rfl rfl _ _ _ rfl 3 _ 1 8 (by rfl) infoInt1 .i64 .i64 k (by rfl) (by rfl) (by omega) (by decide) ?_
          intro wa hOa hga
          have Ka := keeps_grown K0 hga
          try clear hHeld
          refine hK.out _ _ ⟨(Ka.cellSome (fun h => h) c0), (Ka.cellSome (fun h => h) c1), (Ka.cellSome (fun h => h) c2), (Ka.cellSome (fun h => h) c3)⟩ (fun hHeld => ?_)
          clear hK K
          refine norm_ (a' := ?_) ?_ ?_
          rotate_left
          · show Act.put _ (some 64) _ = _
            simp only [Act.put, List.setIfInBounds_toArray, List.set_cons_zero, List.set_cons_succ, i64_w, i32_w]
            rfl
          refine one_ (i := 3) (N := some 62) #[true, true, true, true, true, true, false, false, false, false, false, false] rfl rfl (by kernel_rfl) (by decide) (fun K hK => ?_)
          refine make_own_ rfl rfl _ _ _ rfl 3 _ 1 8 (by rfl) infoInt1 .i64 .i64 k (by rfl) (by rfl) (by omega) (by decide) ?_
          intro wb hOb hgb
          have Kb := keeps_grown Ka hgb
          try clear hHeld
          refine hK.out _ _ ⟨(Kb.cellSome (fun h => h) c0), (Kb.cellSome (fun h => h) c1), (Kb.cellSome (fun h => h) c2), (Kb.cellSome (fun h => h) c3)⟩ (fun hHeld => ?_)
          clear hK K
          refine norm_ (a' := ?_) ?_ ?_
          rotate_left
          · show Act.put _ (some 62) _ = _
            simp only [Act.put, List.setIfInBounds_toArray, List.set_cons_zero, List.set_cons_succ, i64_w, i32_w]
            rfl
          exact norm_ (by simp only [putAll, Act.put, List.setIfInBounds_toArray, List.set_cons_zero, List.set_cons_succ]) (hCont ⟨wa.heap.size, wr.drew.heap.size⟩ _ ⟨Kb, hOb, own_keeps hOa (keeps_grown (Keeps.refl (fun _ => False) _) hgb) (fun _ _ h => h), Ka.size, Nat.le_refl _⟩)
      rintro ⟨gl, gr⟩ w1 hV1
      have hHeld := (⟨(hV1.keeps.cellSome (fun h => h) c0), (hV1.keeps.cellSome (fun h => h) c1), (hV1.keeps.cellSome (fun h => h) c2), (hV1.keeps.cellSome (fun h => h) c3)⟩ : w1.cell? ⟨w.heap.size, 0, none⟩ = some (.int .i64 s.kind) ∧ w1.cell? ⟨w.heap.size, 1, none⟩ = some (.slice a s.L.length c) ∧ w1.cell? ⟨w.heap.size, 2, none⟩ = some (.bool s.isSealed) ∧ w1.cell? ⟨w.heap.size, 3, none⟩ = some (.int .i64 s.to))
      refine norm_ (a' := ?_) ?_ ?_
      rotate_left
      · simp only [putAll, Act.put, List.setIfInBounds_toArray, List.set_cons_zero, List.set_cons_succ]
        rfl
      refine pure_ (i := 6) (N := some 65) (v := ?_) (a' := ?_) #[true, true, true, true, true, true, true, false, false, false, false, false] rfl rfl (by kernel_rfl) (fun _ _ _ h => h) (Or.inl ⟨by rfl, ?_⟩) ?_ ?_
      rotate_left
      · intro w'
        go_simp
        with_reducible rfl
      rotate_left
      · simp only [Act.put, List.setIfInBounds_toArray, List.set_cons_zero, List.set_cons_succ, i64_w, i32_w]
        rfl
      refine one_ (i := 7) (N := some 66) #[true, true, true, true, true, true, true, true, false, false, false, false] rfl rfl (by kernel_rfl) (by decide) (fun K hK => ?_)
      refine value_ (w1 := ?_) (v := ?_) (by rfl) rfl ?_ ?_
      rotate_left 2
      · go_simp
        constructor
        · rfl
        · rfl
      have K2 := hV1.keeps.alloc (.cells #[.int .i64 s.kind, .slice a s.L.length c, .bool s.isSealed, .int .i64 s.to, .slice (some ⟨gl, 0, none⟩) k k, .slice (some ⟨gr, 0, none⟩) k k, .slice none 0 0] 84)
      try clear hHeld
      refine hK.out _ _ ⟨(K2.cellSome (fun h => h) c0), (K2.cellSome (fun h => h) c1), (K2.cellSome (fun h => h) c2), (K2.cellSome (fun h => h) c3)⟩ (fun hHeld => ?_)
      clear hK K
      refine norm_ (a' := ?_) ?_ ?_
      rotate_left
      · show Act.put _ (some 66) _ = _
        simp only [Act.put, List.setIfInBounds_toArray, List.set_cons_zero, List.set_cons_succ, i64_w, i32_w]
        rfl
      refine one_ (i := 8) (N := some 67) #[true, true, true, true, true, true, true, true, true, false, false, false] rfl rfl (by kernel_rfl) (by decide) (fun K hK => ?_)
      refine value_ (w1 := ?_) (v := ?_) (by rfl) rfl ?_ ?_
      rotate_left 2
      · go_simp
        constructor
        · rfl
        · rfl
      have K3 := K2.alloc (.cells #[.pointer (some ⟨w1.heap.size, 0, none⟩)] 82)
      have ff := fe5 _ K3
      have cc := ce5 _ K3
      try clear hHeld
      refine hK.out _ _ ⟨(K3.cellSome (fun h => h) c0), (K3.cellSome (fun h => h) c1), (K3.cellSome (fun h => h) c2), (K3.cellSome (fun h => h) c3)⟩ (fun hHeld => ?_)
      clear hK K
      refine norm_ (a' := ?_) ?_ ?_
      rotate_left
      · show Act.put _ (some 67) _ = _
        simp only [Act.put, List.setIfInBounds_toArray, List.set_cons_zero, List.set_cons_succ, i64_w, i32_w]
        rfl
      refine pure_ (i := 9) (N := some 68) (v := ?_) (a' := ?_) #[true, true, true, true, true, true, true, true, true, true, false, false] rfl rfl (by kernel_rfl) (fun _ _ _ h => h) (Or.inl ⟨by rfl, ?_⟩) ?_ ?_
      rotate_left
      · intro w'
        go_simp
        with_reducible rfl
      rotate_left
      · simp only [Act.put, List.setIfInBounds_toArray, List.set_cons_zero, List.set_cons_succ, i64_w, i32_w]
        rfl
      refine pure_ (i := 10) (N := some 69) (v := ?_) (a' := ?_) #[true, true, true, true, true, true, true, true, true, true, true, false] rfl rfl (by kernel_rfl) (fun _ _ _ h => h) (Or.inl ⟨by rfl, ?_⟩) ?_ ?_
      rotate_left
      · intro w'
        go_simp
        with_reducible rfl
      rotate_left
      · simp only [Act.put, List.setIfInBounds_toArray, List.set_cons_zero, List.set_cons_succ, i64_w, i32_w]
        rfl
      refine last_ (i := 11) (N := none) #[true, true, true, true, true, true, true, true, true, true, true, true] rfl rfl (by kernel_rfl) (by decide) (fun K hK => ?_)
      refine skip_ (w1 := ?_) (by rfl) rfl ?_ ?_
      rotate_left
      · go_simp
        rfl
      try clear hHeld
      refine hK.out _ _ ?_
      clear hK K
      try clear hHeld
      refine done_ (by kernel_rfl) ?_
      have HV := Lib.hid hV1
      clear hV1 fe5 ce5 K0 hHS c0 c1 c2 c3
      go_wp2_with fail
      have := psnew_fin HN.out HV.out HX.out hn1 hn2
      go_ret2
      exact this
end Go.Proofs.Ytjfenjnnpikkdaa
/- Package psim as an engine. -/
namespace Go.Proofs.Ytjfenjnnpikkdaa
set_option linter.unusedVariables false
set_option maxRecDepth 100000
set_option linter.unusedSimpArgs false
open Go.RowKit

/-- How large it may be behind m of its methods. -/
structure PSz (n : Nat) (E : PS) (m : Nat) : Prop where
  vers : E.vers.length ≤ m + 1
  asked : E.asked.length ≤ m + 1
  many : ∀ p, (E.procs p).many < E.asked.length
  todo : ∀ p, p < n → (E.procs p).todo.length ≤ (E.procs p).q
  q : ∀ p, p < n → (E.procs p).q ≤ n
  lenL : ∀ i, i < E.vers.length → (E.ver i).st.L.length ≤ 300
  log : ∀ i, i < E.vers.length → (E.ver i).log.length ≤ 64 * i
theorem PSz.mono {n m m' : Nat} {E : PS} (h : PSz n E m) (hm : m ≤ m') : PSz n E m' := ⟨by have := h.vers; omega, by have := h.asked; omega, h.many, h.todo, h.q, h.lenL, h.log⟩
theorem all_L {A : Nat → Asked} {l : List Nat} : ∀ {v : Ver}, v.st.L.length ≤ 300 → (v.all A l).st.L.length ≤ 300 := by
  induction l with
  | nil => intro v h; exact h
  | cons a l ih => intro v h; exact ih (v := v.one A a) (step_len _ h)
theorem PSz.new {n : Nat} {s : St} (hs : s.L.length ≤ 300) : PSz n (PS.new s) 0 := by
  refine ⟨by simp [PS.new], by simp [PS.new], fun p => by simp [PS.new], fun p hp => by simp [PS.new], fun p hp => by simp [PS.new], fun i hi => ?_, fun i hi => ?_⟩
  · have : i = 0 := by simp [PS.new] at hi; omega
    subst this; exact hs
  · have : i = 0 := by simp [PS.new] at hi; omega
    subst this; simp [PS.new, PS.ver]
theorem PSz.invoke {n m p : Nat} {E : PS} (h : PSz n E m) (hp : p < n) (o : Op3) : PSz n (E.invoke p o) (m + 1) := by
  refine ⟨by have := h.vers; simp [PS.invoke]; omega, by have := h.asked; simp [PS.invoke]; omega, fun q => ?_, fun q hq => ?_, fun q hq => ?_, h.lenL, h.log⟩
  · have := h.many q
    by_cases e : q = p
    · subst e; simp [PS.invoke, upd_same]; omega
    · simp [PS.invoke, upd_ne _ _ e]; omega
  · by_cases e : q = p
    · subst e; simp [PS.invoke, upd_same]; exact h.todo q hq
    · simp [PS.invoke, upd_ne _ _ e]; exact h.todo q hq
  · by_cases e : q = p
    · subst e; simp [PS.invoke, upd_same]; exact h.q q hq
    · simp [PS.invoke, upd_ne _ _ e]; exact h.q q hq
/-- One that only turns a process. -/
theorem PSz.proc {n m p : Nat} {E E' : PS} (h : PSz n E m) (hv : E'.vers = E.vers) (ha : E'.asked = E.asked) (hq : ∀ q, q ≠ p → E'.procs q = E.procs q) (hm : (E'.procs p).many = (E.procs p).many) (ht : p < n → (E'.procs p).todo.length ≤ (E'.procs p).q) (hqq : p < n → (E'.procs p).q ≤ n) : PSz n E' m := by
  have ever : ∀ i, E'.ver i = E.ver i := fun i => by simp [PS.ver, hv]
  refine ⟨by rw [hv]; exact h.vers, by rw [ha]; exact h.asked, fun q => ?_, fun q hqn => ?_, fun q hqn => ?_, fun i hi => by rw [ever]; exact h.lenL i (by rwa [hv] at hi), fun i hi => by rw [ever]; exact h.log i (by rwa [hv] at hi)⟩
  · rw [ha]
    by_cases e : q = p
    · subst e; rw [hm]; exact h.many q
    · rw [hq q e]; exact h.many q
  · by_cases e : q = p
    · subst e; exact ht hqn
    · rw [hq q e]; exact h.todo q hqn
  · by_cases e : q = p
    · subst e; exact hqq hqn
    · rw [hq q e]; exact h.q q hqn
theorem PSz.swap {n m p : Nat} {E : PS} (h : PSz n E m) (hp : p < n) (hn : n ≤ 64) (hs : (E.procs p).seen < E.vers.length) : PSz n (E.swap p) (m + 1) := by
  have hvn : ∀ i, i < E.vers.length + 1 → (E.swap p).ver i = if i = E.vers.length then (E.ver (E.procs p).seen).all E.ask (E.procs p).todo else E.ver i := fun i hi => by
    by_cases e : i = E.vers.length
    · subst e; simp [PS.swap, PS.ver, List.getD_eq_getElem?_getD]
    · rw [if_neg e]; exact PS.ver_append _ (by omega)
  refine ⟨by have := h.vers; simp [PS.swap]; omega, by have := h.asked; simp [PS.swap]; omega, fun q => ?_, fun q hqn => ?_, fun q hqn => ?_, fun i hi => ?_, fun i hi => ?_⟩
  · by_cases e : q = p
    · subst e; simpa [PS.swap, upd_same] using h.many q
    · simpa [PS.swap, upd_ne _ _ e] using h.many q
  · by_cases e : q = p
    · subst e; simpa [PS.swap, upd_same] using h.todo q hqn
    · simpa [PS.swap, upd_ne _ _ e] using h.todo q hqn
  · by_cases e : q = p
    · subst e; simpa [PS.swap, upd_same] using h.q q hqn
    · simpa [PS.swap, upd_ne _ _ e] using h.q q hqn
  · have hi' : i < E.vers.length + 1 := by simpa [PS.swap] using hi
    rw [hvn i hi']
    split
    · exact all_L (h.lenL _ hs)
    · exact h.lenL i (by omega)
  · have hi' : i < E.vers.length + 1 := by simpa [PS.swap] using hi
    rw [hvn i hi']
    split
    · rw [all_log_len]
      have := h.log _ hs
      have := h.todo p hp
      have := h.q p hp
      omega
    · exact h.log i (by omega)
theorem PSz.step_ {n m p : Nat} {start : St} {E : PS} (h : PSz n E m) (hI : PInv n start E) (hp : p < n) (hn : n ≤ 64) (hb : (E.procs p).ph ≠ .idle) : PSz n (E.step n p).1 (m + 1) := by
  unfold PS.step
  cases hph : (E.procs p).ph with
  | idle => exact absurd hph hb
  | announce => exact (h.mono (by omega)).proc (p := p) rfl rfl (fun q e => upd_ne _ _ e) (by simp [PS.announce, upd_same]) (fun _ => by simpa [PS.announce, upd_same] using h.todo p hp) (fun _ => by simpa [PS.announce, upd_same] using h.q p hp)
  | load => exact (h.mono (by omega)).proc (p := p) rfl rfl (fun q e => upd_ne _ _ e) (by simp [PS.load, upd_same]) (fun _ => by simp [PS.load, upd_same]) (fun _ => by simp [PS.load, upd_same])
  | scan =>
    have hl := (hI.look p hp (.inl hph)).qscan hph
    refine (h.mono (by omega)).proc (p := p) rfl rfl (fun q e => upd_ne _ _ e) (by simp [PS.scan, upd_same]) (fun _ => ?_) (fun _ => ?_)
    · have := h.todo p hp
      simp only [PS.scan, upd_same]
      split
      · omega
      · simp; omega
    · simp only [PS.scan, upd_same]; omega
  | swap => exact h.swap hp hn (hI.look p hp (.inr hph)).seen
  | finish => exact (h.mono (by omega)).proc (p := p) rfl rfl (fun q e => upd_ne _ _ e) (by simp [PS.finish, upd_same]) (fun _ => by simpa [PS.finish, upd_same] using h.todo p hp) (fun _ => by simpa [PS.finish, upd_same] using h.q p hp)

/-- Package psim in memory. -/
def psRep (n : Nat) (start : St) : ERepT PS := fun w base fp b m E => ∃ R, PRep w base b R n E ∧ (∀ k, fp k ↔ R.own k ≠ none) ∧ PInv n start E ∧ PSz n E m

theorem psRep.post {n m : Nat} {start : St} {w w' : World} {base b : Nat} {fp : Nat → Prop} {R : PRef} {E' : PS} {v : Value} {e : Ending} (hfp : ∀ k, fp k ↔ R.own k ≠ none) (hI : PInv n start E') (hz : PSz n E' m) (h : PPost w base b R n E' v e w') : EPost (psRep n start) w base fp b m E' v e w' := by
  obtain ⟨rfl, R', h1, h2, h3⟩ := h
  exact ⟨rfl, fun k => R'.own k ≠ none, ⟨R', h1, fun _ => Iff.rfl, hI, hz⟩, fun k hk => by simp only [h2 k hk, hfp], h3.mono fun k hk => (hfp k).2 hk⟩
theorem psRep.same {n m : Nat} {start : St} {w : World} {base b : Nat} {fp : Nat → Prop} {E : PS} {v : Value} (h : psRep n start w base fp b m E) {m' : Nat} (hm : m ≤ m') : EPost (psRep n start) w base fp b m' E v (.returned v) w := by
  obtain ⟨R, h1, h2, h3, h4⟩ := h
  exact ⟨rfl, fp, ⟨R, h1, h2, h3, h4.mono hm⟩, fun k _ => Iff.rfl, Keeps.refl _ _⟩
/-- What turns the machine's numbers of steps alone. -/
theorem psRep.mach {n m : Nat} {start : St} {w w' : World} {base b : Nat} {fp : Nat → Prop} {R : PRef} {E : PS} (h : PRep w base b R n E) (hfp : ∀ k, fp k ↔ R.own k ≠ none) (hI : PInv n start E) (hz : PSz n E m) {s' : List Int} (hM : Mach w' R.bm R.vc R.vs ⟨cellsP n E, s'⟩) (hK : Keeps (machF R.bm R.vc R.vs) w w') :
    psRep n start w' base fp b m E ∧ Keeps fp w w' := by
  have hp : 0 < n := h.small.1
  have hT := h.machT
  have hX := h.proc 0 hp
  have hX' : XRep w' R.own b (R.pa 0) 0 (E.procs 0) (R.bef 0) (R.pt 0) := hX.keeps hK (fun k hk => by rw [hT k hk]; simp) (fun _ e => e)
  have ht := h.turn hp hK (fun k hk => .inl (hT k hk)) R.own (fun _ _ => rfl) (fun q hq hn => by have := (h.fresh q hn).2; omega) E.annv E.rootv s' hM (E.procs 0) (R.bef 0) (R.pt 0) hX'
  have e1 : upd E.procs 0 (E.procs 0) = E.procs := by funext q; unfold upd; split <;> simp_all
  have e2 : upd R.pt 0 (R.pt 0) = R.pt := by funext q; unfold upd; split <;> simp_all
  have e3 : upd R.bef 0 (R.bef 0) = R.bef := by funext q; unfold upd; split <;> simp_all
  rw [e1, e2, e3] at ht
  exact ⟨⟨_, ht, hfp, hI, hz⟩, hK.mono fun k hk => (hfp k).2 (by rw [hT k hk]; simp)⟩

theorem ps_swap {w : World} {base be n p : Nat} {R : PRef} {E : PS} (h : PRep w base be R n E) (hp : p < n) (hI : SwapIn n p E) :
    Calls Try.prog 90 #[.pointer (some ⟨R.pa p, 0, none⟩)] w (PPost w base be R n (E.swap p) (.tuple #[.int .i64 0, .bool false])) := by
  by_cases hlt : (E.procs p).tries + 1 < 2
  · exact ps_swap_lt h hp hI hlt
  · exact ps_swap_ge h hp hI hlt
theorem ps_scan {w : World} {base be n p : Nat} {R : PRef} {E : PS} (h : PRep w base be R n E) (hp : p < n) (hq : (E.procs p).q < n) (hs : (E.procs p).seen < E.vers.length) (hv : E.vers.length ≤ 1073741824) (ht : (E.procs p).todo.length ≤ 1073741824) :
    Calls Try.prog 82 #[.pointer (some ⟨R.pa p, 0, none⟩)] w (PPost w base be R n (E.scan n p) (.tuple #[.int .i64 0, .bool false])) := by
  by_cases hne : E.annv (E.procs p).q = (E.ver (E.procs p).seen).last (E.procs p).q <;> by_cases hlt : (E.procs p).q + 1 < n
  · exact ps_scan_eq_lt h hp hq hs hv ht hne hlt
  · exact ps_scan_eq_ge h hp hq hs hv ht hne hlt
  · exact ps_scan_ne_lt h hp hq hs hv ht hne hlt
  · exact ps_scan_ne_ge h hp hq hs hv ht hne hlt
theorem enter_announce (args : Array Value) (W : World) : (callFunc 51 args).run Try.prog W = .ok (.enter 51 args) W := by go_simp
theorem enter_load (args : Array Value) (W : World) : (callFunc 70 args).run Try.prog W = .ok (.enter 70 args) W := by go_simp
theorem enter_scan (args : Array Value) (W : World) : (callFunc 82 args).run Try.prog W = .ok (.enter 82 args) W := by go_simp
theorem enter_swap (args : Array Value) (W : World) : (callFunc 90 args).run Try.prog W = .ok (.enter 90 args) W := by go_simp
theorem ps_step {w : World} {base be n p m : Nat} {R : PRef} {E : PS} {start : St} (h : PRep w base be R n E) (hp : p < n) (hI : PInv n start E) (hz : PSz n E m) (hm : m < 1000000) (hb : (E.procs p).ph ≠ .idle) :
    Calls Try.prog 23 #[.pointer (some ⟨be, 0, none⟩), .int .i64 p] w (PPost w base be R n (E.step n p).1 (.tuple #[.int .i64 (E.step n p).2.1, .bool (E.step n p).2.2])) := by
  have hn := h.small.2
  have hv := hz.vers
  have ha := hz.asked
  have ht := hz.todo p hp
  have hq := hz.q p hp
  unfold PS.step
  cases hph : (E.procs p).ph with
  | idle => exact absurd hph hb
  | announce => exact ps_step_go h hp _ (by rw [hph]; rfl) enter_announce (ps_announce h hp)
  | load => exact ps_step_go h hp _ (by rw [hph]; rfl) enter_load (ps_load h hp)
  | scan =>
    have hl := hI.look p hp (.inl hph)
    exact ps_step_go h hp _ (by rw [hph]; rfl) enter_scan (ps_scan h hp (hl.qscan hph) hl.seen (by omega) (by omega))
  | swap =>
    have hl := hI.look p hp (.inr hph)
    refine ps_step_go h hp _ (by rw [hph]; rfl) enter_swap (ps_swap h hp ⟨hl.seen, ?_, by omega, ?_, hz.lenL _ hl.seen, ?_⟩)
    · rcases hl.tries with g | g <;> omega
    · intro a hat
      have := hl.todo.ne a hat
      exact ⟨this.2.1, by omega⟩
    · have := hz.log _ hl.seen
      have := hl.seen
      omega
  | finish => exact ps_step_fin h hp hph hI.root (by omega)

theorem psIf (n : Nat) (start : St) (hn : 0 < n ∧ n ≤ 64) : EngIf (psRep n start) (psLin n start) 22 23 25 17 20 where
  keeps := by
    rintro w w' base fp b m E F ⟨R, h1, h2, h3, h4⟩ hK hF
    exact ⟨R, h1.keeps hK (fun k hk => ⟨by have := (hF k hk).1; rw [h2] at this; simpa using this, (hF k hk).2⟩), h2, h3, h4⟩
  mono := by
    rintro w base fp b m m' E ⟨R, h1, h2, h3, h4⟩ hm
    exact ⟨R, h1, h2, h3, h4.mono hm⟩
  lt := by
    rintro w base fp b m E ⟨R, h1, h2, h3, h4⟩ k hk
    exact h1.fresh k ((h2 k).1 hk)
  inv := by rintro w base fp b m E ⟨R, h1, h2, h3, h4⟩; exact h3
  small := hn
  invoke := by
    rintro w base fp b m E ⟨R, h1, h2, h3, h4⟩ hm p o
    by_cases hp : 0 ≤ p ∧ p < n
    · obtain ⟨q, rfl⟩ := Int.eq_ofNat_of_zero_le hp.1
      have hq : q < n := by omega
      by_cases hf : fitsB o = true
      · by_cases hb : (E.procs q).ph = .idle
        · have hc : codeI (psLin n start) E (q : Int) o = 0 := (codeI_zero _ _ _ _).2 ⟨by omega, hp.2, hf, by simp [psLin, hb]⟩
          have hi : invI (psLin n start) E (q : Int) o = E.invoke q o := by unfold invI; rw [if_pos hc]; rfl
          rw [hc, hi]
          have ha := h4.asked
          have hmn := h4.many q
          refine (ps_invoke_ok h1 hq o hf hb (by omega) (by omega)).mono fun e w' h => ?_
          exact psRep.post h2 (h3.invoke hq hb o) (h4.invoke hq o) h
        · have hc : codeI (psLin n start) E (q : Int) o = 14 := by
            unfold codeI
            rw [if_pos ⟨by omega, hp.2, hf⟩, if_pos (by simp [psLin, hb])]
          have hi : invI (psLin n start) E (q : Int) o = E := by unfold invI; rw [if_neg (by rw [hc]; decide)]
          rw [hc, hi]
          exact (ps_invoke_busy h1 hq o hf hb).mono fun e w' h => psRep.post h2 h3 (h4.mono (by omega)) h
      · have hc : codeI (psLin n start) E (q : Int) o = 1 := by unfold codeI; rw [if_neg (fun g => hf g.2.2)]
        have hi : invI (psLin n start) E (q : Int) o = E := by unfold invI; rw [if_neg (by rw [hc]; decide)]
        rw [hc, hi]
        exact (ps_invoke_arg h1 q o (.inr (by simpa using hf))).mono fun e w' h => psRep.post h2 h3 (h4.mono (by omega)) h
    · have hc : codeI (psLin n start) E p o = 1 := by unfold codeI; rw [if_neg (fun g => hp ⟨g.1, g.2.1⟩)]
      have hi : invI (psLin n start) E p o = E := by unfold invI; rw [if_neg (by rw [hc]; decide)]
      rw [hc, hi]
      exact (ps_invoke_arg h1 p o (.inl hp)).mono fun e w' h => psRep.post h2 h3 (h4.mono (by omega)) h
  step := by
    rintro w base fp b m E ⟨R, h1, h2, h3, h4⟩ hm p
    by_cases hp : 0 ≤ p ∧ p < n ∧ (E.procs p.toNat).ph ≠ .idle
    · obtain ⟨q, rfl⟩ := Int.eq_ofNat_of_zero_le hp.1
      have hb := hp.2.2
      rw [Int.toNat_natCast] at hb
      have e : stpI (psLin n start) E (q : Int) = E.step n q := by
        rw [stpI_pos _ _ _ ⟨hp.1, hp.2.1, by simpa [psLin] using hb⟩]; rfl
      rw [e]
      have hq : q < n := by omega
      exact (ps_step h1 hq h3 h4 hm hb).mono fun e w' h => psRep.post h2 (h3.step_ hq hb).1 (h4.step_ h3 hq hn.2 hb) h
    · have e : stpI (psLin n start) E p = (E, 0, false) := stpI_neg _ _ _ (fun g => hp ⟨g.1, g.2.1, by simpa [psLin] using g.2.2⟩)
      rw [e]
      refine (ps_step_not h1 p ?_).mono ?_
      · by_cases g : 0 ≤ p ∧ p < n
        · exact .inr (by have : ¬ (E.procs p.toNat).ph ≠ .idle := fun h => hp ⟨g.1, g.2, h⟩
                         exact Decidable.not_not.1 this)
        · exact .inl g
      · rintro e w' ⟨rfl, rfl⟩
        exact psRep.same ⟨R, h1, h2, h3, h4⟩ (by omega)
  busy := by
    rintro w base fp b m E ⟨R, h1, h2, h3, h4⟩ hm p
    refine (ps_busy h1 p).mono ?_
    rintro e w' ⟨rfl, rfl⟩
    have e : decide (0 ≤ p ∧ p < (psLin n start).n ∧ (psLin n start).busy E p.toNat = true) = decide (0 ≤ p ∧ p < n ∧ (E.procs p.toNat).ph ≠ .idle) := by
      simp [psLin]
    rw [e]
    exact psRep.same ⟨R, h1, h2, h3, h4⟩ (Nat.le_refl _)
  log := by
    rintro w base fp b m E ⟨R, h1, h2, h3, h4⟩ hm
    have hr := h3.root
    have hv := h4.vers
    have hl := h4.log _ hr
    refine (ps_log h1 hr (by omega) (by show (E.ver E.rootv).log.length ≤ _; omega)).mono ?_
    rintro e w' ⟨v', rfl, ho, hf, ⟨s', hM⟩, hK⟩
    obtain ⟨g1, g2⟩ := psRep.mach h1 h2 h3 h4 hM hK
    exact ⟨v', rfl, ho, hf, fp, g1, fun _ _ => Iff.rfl, fun k hk hfk => by have := hf k hk; have := h1.fresh k ((h2 k).1 hfk); omega, g2⟩
  state := by
    rintro w base fp b m E ⟨R, h1, h2, h3, h4⟩ hm
    have hr := h3.root
    have hv := h4.vers
    have hl := h4.lenL _ hr
    refine (ps_state h1 hr (by omega) hl).mono ?_
    rintro e w' ⟨v', rfl, ho, hf, ⟨s', hM⟩, hK⟩
    obtain ⟨g1, g2⟩ := psRep.mach h1 h2 h3 h4 hM hK
    exact ⟨v', E.now.st, h3.now.st, hl, rfl, ho, hf, fp, g1, fun _ _ => Iff.rfl, fun k hk hfk => by have := hf k hk; have := h1.fresh k ((h2 k).1 hfk); omega, g2⟩

/-- How it begins. -/
def psZero (n : Nat) (s : St) : PS := PS.new s
theorem ps_start {w : World} {vl : Value} (s : St) (hx : Rd w vl s.L) (hl : s.L.length ≤ 300) (n : Nat) (hm1 : mayB s = true) (hn1 : 1 ≤ n) (hn2 : n ≤ 64) :
    Calls Try.prog 15 #[stV s vl, .int .i64 n] w (ENew (psRep n s) w (psZero n s)) := by
  refine (ps_new s hx hl n hm1 hn1 hn2).mono ?_
  rintro e w' ⟨b, R, rfl, h1, h2⟩
  exact ⟨b, fun k => R.own k ≠ none, rfl, ⟨R, h1, fun _ => Iff.rfl, PInv.new, PSz.new hl⟩, h2⟩
theorem ps_zero (n : Nat) (s : St) : ZeroIf (psLin n s) (psZero n s) := ⟨PInv.new, fun p _ => rfl, fun p _ => rfl, rfl⟩
theorem ps_start_no {w : World} {vl : Value} (s : St) (hx : Rd w vl s.L) (n : Int) (hno : ¬ (mayB s = true ∧ 1 ≤ n ∧ n ≤ 64)) :
    Calls Try.prog 15 #[stV s vl, .int .i64 n] w fun e w' => e = .returned (.tuple #[.pointer none, .int .i64 1]) ∧ Below w.heap.size w w' := by
  refine ps_new_no s hx n ?_
  by_cases h : mayB s = true
  · by_cases h1 : n < 1
    · exact .inr (.inl h1)
    · exact .inr (.inr (by
        apply Classical.byContradiction
        intro h2
        exact hno ⟨h, by omega, by omega⟩))
  · exact .inl (by simpa using h)
end Go.Proofs.Ytjfenjnnpikkdaa
/- Scripts as arguments. -/
namespace Go.Proofs.Ytjfenjnnpikkdaa
set_option linter.unusedVariables false
set_option maxRecDepth 100000
set_option linter.unusedSimpArgs false
open Go.RowKit Go.ChangeShapes Go.WideShapes Go.Deep
section
variable {H : Type} {enc : TypeId × Value → H} {W : World} {base : Nat} {held : Bool}
theorem Try.cells_evPs : Try.prog.cellsOf 50 = 5 := by kernel_rfl
theorem flat_evPs (n : Nat) (cs : List Value) (y : DataW H × List MemPlace) (h : DataW.trod enc Try.prog W base (fun _ => true) held n 50 cs = some y) : ∀ j, j < 5 → ∃ k, cs[j]? = some (.int .i64 k) := by
  obtain ⟨y0, y1, y2, m', hx', hl, u0, u1, u2⟩ := trod_struct3 Try.underlying50 h
  rw [Try.cells_evPs] at hl
  obtain ⟨c0, c1, c2, c3, c4, rfl⟩ : ∃ c0 c1 c2 c3 c4, cs = [c0, c1, c2, c3, c4] := by
    match cs, hl with
    | [a, b, c, d, e], _ => exact ⟨a, b, c, d, e, rfl⟩
  simp only [Try.cells_int, Try.cells_op, List.drop, List.take] at u0 u1 u2
  obtain ⟨k, e0, _, _⟩ := DataW.trod_int Try.underlying3 u0
  obtain ⟨a, e1, _, _⟩ := DataW.trod_int Try.underlying3 u1
  obtain ⟨b, c, d, e2⟩ := flat_op _ _ _ u2
  simp only [List.cons.injEq, and_true] at e0 e1 e2
  obtain ⟨e2, e3, e4⟩ := e2
  subst e0 e1 e2 e3 e4
  intro j hj
  rcases j with _ | _ | _ | _ | _ | j
  · exact ⟨_, rfl⟩
  · exact ⟨_, rfl⟩
  · exact ⟨_, rfl⟩
  · exact ⟨_, rfl⟩
  · exact ⟨_, rfl⟩
  · omega
end
end Go.Proofs.Ytjfenjnnpikkdaa
/- What the statements of a layer's engine share: awake, few. -/
namespace Go.Proofs.Ytjfenjnnpikkdaa
set_option linter.unusedVariables false
set_option maxRecDepth 100000
set_option linter.unusedSimpArgs false
open Go.RowKit

theorem ps_few {w : World} {vl : Value} (s : St) (hx : Rd w vl s.L) (a : Option Addr) (len cap : Nat) :
    Calls Try.prog 14 #[stV s vl, .slice a len cap] w (Tells w (decide (s.L.length ≤ 300 ∧ len ≤ 1500))) := by
  obtain ⟨al, c, rfl, _⟩ := id hx
  have hb1 : Below w.heap.size w (w.alloc (.cells #[.int .i64 s.kind, .slice al s.L.length c, .bool s.isSealed, .int .i64 s.to] 24)) := (Below.refl _ _).alloc (Nat.le_refl _) _
  have hF := few04 (w := (w.alloc (.cells #[.int .i64 s.kind, .slice al s.L.length c, .bool s.isSealed, .int .i64 s.to] 24))) s (hx.alloc _)
  have HF := Lib.hid hF
  have HB := Lib.hid hb1
  by_cases h1 : s.L.length ≤ 300
  · by_cases h2 : len ≤ 1500
    · have d2 : decide ((len : Int) ≤ 1500) = true := decide_eq_true (by omega)
      have d0 : decide (s.L.length ≤ 300 ∧ len ≤ 1500) = true := decide_eq_true ⟨h1, h2⟩
      rw [d0]
      rw [decide_eq_true h1] at HF
      clear hx hb1 hF d0
      go_enter Try.func14, Try.ntmps14
      go_wp2_with (go_at_call 36; refine HF.out.mono ?_; rintro e w3 ⟨rfl, hb3⟩; have H3 := Lib.hid hb3; clear hb3)
      go_ret
      exact ⟨rfl, HB.out.trans (H3.out.mono (by simp))⟩
    · have d2 : decide ((len : Int) ≤ 1500) = false := decide_eq_false (by omega)
      have d0 : decide (s.L.length ≤ 300 ∧ len ≤ 1500) = false := decide_eq_false (fun h => h2 h.2)
      rw [d0]
      rw [decide_eq_true h1] at HF
      clear hx hb1 hF d0
      go_enter Try.func14, Try.ntmps14
      go_wp2_with (go_at_call 36; refine HF.out.mono ?_; rintro e w3 ⟨rfl, hb3⟩; have H3 := Lib.hid hb3; clear hb3)
      go_ret
      exact ⟨rfl, HB.out.trans (H3.out.mono (by simp))⟩
  · have d0 : decide (s.L.length ≤ 300 ∧ len ≤ 1500) = false := decide_eq_false (fun h => h1 h.1)
    rw [d0]
    rw [decide_eq_false h1] at HF
    clear hx hb1 hF d0
    go_enter Try.func14, Try.ntmps14
    go_wp2_with (go_at_call 36; refine HF.out.mono ?_; rintro e w3 ⟨rfl, hb3⟩; have H3 := Lib.hid hb3; clear hb3)
    go_ret
    exact ⟨rfl, HB.out.trans (H3.out.mono (by simp))⟩

abbrev EngOfPs {σ : Type} (Rep : ERepT σ) (L : Lin σ) : Prop := EngIf Rep L 22 23 25 17 20
abbrev awkS : St := ⟨0, [0], false, 0⟩
set_option maxRecDepth 100000 in
set_option maxHeartbeats 6400000 in
theorem ps_awake {σ : Type} {Rep : ERepT σ} {L : Lin σ} (I : EngOfPs Rep L) {B : Nat} (S : SoloIf L B) (hB : B + 1 ≤ 500) (hs : L.start = awkS) {E0 : σ} (hz : ZeroIf L E0)
    (hNew : ∀ w vl, Rd w vl awkS.L → Calls Try.prog 15 #[stV awkS vl, .int .i64 2] w (ENew Rep w E0)) (w : World) : Calls Try.prog 13 #[] w (Tells w true) := by
  have hn := I.small.1
  have hrd := rd_lit w [0] 1 rfl (by decide)
  have hN := hNew _ _ hrd
  have hbs : Below w.heap.size w (w.alloc (.cells (ints [0]).toArray 3)) := (Below.refl _ _).alloc (Nat.le_refl _) _
  have hc : codeI L E0 0 ⟨1, 5, 0⟩ = 0 := (codeI_zero _ _ _ _).2 ⟨by decide, by omega, by decide, hz.busy _ hn⟩
  have hi : invI L E0 0 ⟨1, 5, 0⟩ = L.invoke E0 0 ⟨1, 5, 0⟩ := by unfold invI; rw [if_pos hc]; rfl
  have HN := Lib.hid hN
  have HBS := Lib.hid hbs
  clear hNew hN hrd hbs
  go_enter Try.func13, Try.ntmps13
  go_wp2_with fail
  refine HN.out.mono ?_
  rintro e w1 ⟨b, fp, rfl, hR1, hb1⟩
  have hB1 := HBS.out.trans (hb1.mono (by simp))
  have hbase : w.heap.size ≤ (w.alloc (.cells (ints [0]).toArray 3)).heap.size := HBS.out.size
  generalize (w.alloc (.cells (ints [0]).toArray 3)).heap.size = base at *
  have HI := Lib.hid (I.invoke hR1 (by decide) 0 ⟨1, 5, 0⟩)
  rw [hc, hi] at HI
  have HR1 := Lib.hid hR1
  clear hb1 hR1 HN HBS
  go_wp2_with (go_at_call 22; refine HI.out.mono ?_; rintro e w2 ⟨rfl, fp2, hR2, hfp2, hK2⟩)
  have hB2 := hB1.trans (hK2.below (fun k hk => Nat.le_trans hbase (I.lt HR1.out k hk).1) hB1.size)
  clear hK2 hfp2 hB1 HI
  have hb0 := hz.busy 0 hn
  have hb1 : L.busy (L.invoke E0 0 ⟨1, 5, 0⟩) 0 = true := by rw [L.busy_invoke E0 0 ⟨1, 5, 0⟩ hz.inv hn hb0]; simp
  have hI1 := L.inv_invoke E0 0 ⟨1, 5, 0⟩ hz.inv hn hb0 (by decide)
  have hdone : (soloS L (L.invoke E0 0 ⟨1, 5, 0⟩) 0 500).2.2 = true := by
    have h1 := solo_done S hI1 hn hb1
    rw [Int.natCast_zero] at h1
    rw [solo_stay L _ _ h1 500 hB]
    exact h1
  have hend := solo_end (k := 500) hz.inv hn hz.busy (o := ⟨1, 5, 0⟩) (by decide) (by rw [Int.natCast_zero]; exact hdone)
  rw [Int.natCast_zero, hz.log, hs, show stepS (behind awkS []) ⟨1, 5, 0⟩ = (⟨0, [5], false, 0⟩, 0) by decide +kernel] at hend
  generalize L.invoke E0 0 ⟨1, 5, 0⟩ = E1 at *
  go_loopw [4, 5, 6] (fun nv dv iv wr => ∃ (k : Nat) (fp : Nat → Prop), k ≤ 500 ∧ iv = .int .i64 k ∧ nv = .int .i64 (soloS L E1 0 k).2.1 ∧ dv = .bool (soloS L E1 0 k).2.2 ∧ Rep wr base fp b (k + 1) (soloS L E1 0 k).1 ∧ Below w.heap.size w wr) (fun _ _ iv _ => 500 - (intOf iv).toNat)
  case atStart => exact ⟨0, fp2, by decide, rfl, rfl, rfl, hR2, hB2⟩
  case round =>
    obtain ⟨k, fpk, hk, rfl, rfl, rfl, hR, hBk⟩ := hrel
    clear hR2 hB2
    by_cases hlt : k < 500
    · have d1 : decide ((k : Int) < 500) = true := decide_eq_true (by omega)
      by_cases hd : (soloS L E1 0 k).2.2 = true
      · rw [hd]
        have hst := solo_stay L E1 0 hd 500 (by omega)
        rw [hst] at hend
        have hm1 : k + 1 < 1000000 := by omega
        obtain ⟨he1, he2, -, -⟩ := hend
        have HT := Lib.hid (I.state hR hm1)
        have HB := Lib.hid hBk
        have HR := Lib.hid hR
        rw [he1]
        clear hR hBk he1
        go_wp2_with (go_at_call 20; refine HT.out.mono ?_; rintro e w3 ⟨v3, s3, hs3, hl3, rfl, hO3, hf3, fp3, hR3, hfp3, hv3, hK3⟩; rw [hs, he2] at hs3; subst hs3; obtain ⟨g3, c3, rfl, -⟩ := own_open hO3 (by decide); have hc3 : w3.cell? ⟨g3, 0, none⟩ = some (.int .i64 5) := (World.ownsRow.cellAt hO3 0 (by decide)).trans rfl; have hg3 := own_lt hO3 rfl; have HK3 := Lib.hid hK3; clear hR3 hfp3 hK3 hO3 hf3 hv3)
        go_ret
        refine ⟨rfl, ?_⟩
        have hB3 := HB.out.trans (HK3.out.below (fun k hk => Nat.le_trans hbase (I.lt HR.out k hk).1) HB.out.size)
        exact hB3.alloc hB3.size _
      · have hd' : (soloS L E1 0 k).2.2 = false := by simpa using hd
        have hnext : soloS L E1 0 (k + 1) = stpI L (soloS L E1 0 k).1 0 := by
          conv => lhs; unfold soloS
          rw [if_neg hd]
        have HS := Lib.hid (I.step hR (by omega) 0)
        rw [← hnext] at HS
        have HB := Lib.hid hBk
        have HR := Lib.hid hR
        rw [hd']
        clear hR hBk hnext hend hdone
        go_wp2_with (go_at_call 23; refine HS.out.mono ?_; rintro e w3 ⟨rfl, fp3, hR3, hfp3, hK3⟩; have HR3 := Lib.hid hR3; have HK3 := Lib.hid hK3; clear hR3 hfp3 hK3)
        go_roundw
        case rel => exact ⟨k + 1, fp3, by omega, by go_num, rfl, rfl, HR3.out, HB.out.trans (HK3.out.below (fun k hk => Nat.le_trans hbase (I.lt HR.out k hk).1) HB.out.size)⟩
        case measure => simp [intOf]; omega
    · have hk5 : k = 500 := by omega
      subst hk5
      rw [hdone]
      have hm1 : 500 + 1 < 1000000 := by omega
      obtain ⟨he1, he2, -, -⟩ := hend
      have HT := Lib.hid (I.state hR hm1)
      have HB := Lib.hid hBk
      have HR := Lib.hid hR
      rw [he1]
      clear hR hBk he1
      go_wp2_with (go_at_call 20; refine HT.out.mono ?_; rintro e w3 ⟨v3, s3, hs3, hl3, rfl, hO3, hf3, fp3, hR3, hfp3, hv3, hK3⟩; rw [hs, he2] at hs3; subst hs3; obtain ⟨g3, c3, rfl, -⟩ := own_open hO3 (by decide); have hc3 : w3.cell? ⟨g3, 0, none⟩ = some (.int .i64 5) := (World.ownsRow.cellAt hO3 0 (by decide)).trans rfl; have hg3 := own_lt hO3 rfl; have HK3 := Lib.hid hK3; clear hR3 hfp3 hK3 hO3 hf3 hv3)
      go_ret
      refine ⟨rfl, ?_⟩
      have hB3 := HB.out.trans (HK3.out.below (fun k hk => Nat.le_trans hbase (I.lt HR.out k hk).1) HB.out.size)
      exact hB3.alloc hB3.size _
end Go.Proofs.Ytjfenjnnpikkdaa
/- What the statements of a layer's engine share: run. -/
namespace Go.Proofs.Ytjfenjnnpikkdaa
set_option linter.unusedVariables false
set_option maxRecDepth 100000
set_option linter.unusedSimpArgs false
open Go.RowKit
open Go.Proofs.YtjfenjnnpikkdaaW.PrintLast

def pscallV (c : CallR) : List Value := [.int .i64 c.p, .int .i64 c.seq, .int .i64 c.frm, .int .i64 c.to, .int .i64 c.resp, .int .i64 c.op.code, .int .i64 c.op.a, .int .i64 c.op.b]
theorem pscalls_len (l : List CallR) : (l.flatMap pscallV).length = l.length * 8 := by
  induction l with
  | nil => rfl
  | cons a l ih => simp only [List.flatMap_cons, List.length_append, ih, List.length_cons, pscallV, List.length_nil]; omega
theorem psinfoCall : (Try.prog.info? 48).map (fun i => (i.zero, i.size, i.bytes)) = some (some (.agg #[.int .i64 0, .int .i64 0, .int .i64 0, .int .i64 0, .int .i64 0, .int .i64 0, .int .i64 0, .int .i64 0]), 8, 64) := by kernel_rfl
theorem pscalls_set : ∀ (l : List CallR) (o : Nat) (k n : Int), o < l.length → ((l.flatMap pscallV).set (o * 8 + 3) (.int .i64 k)).set (o * 8 + 4) (.int .i64 n) = (l.set o { l.getD o noCall with to := k, resp := n }).flatMap pscallV := by
  intro l
  induction l with
  | nil => intro o k n h; simp at h
  | cons a l ih =>
    intro o k n h
    rcases o with _ | o
    · simp [pscallV]
    · have := ih o k n (by simpa using h)
      rw [List.flatMap_cons, List.set_append_right _ _ (by simp [pscallV]; omega), List.set_append_right _ _ (by simp [pscallV]; omega)]
      rw [show (o + 1) * 8 + 3 - (pscallV a).length = o * 8 + 3 by simp [pscallV]; omega, show (o + 1) * 8 + 4 - (pscallV a).length = o * 8 + 4 by simp [pscallV]; omega, this]
      simp
theorem pscalls_at : ∀ (l : List CallR) (o : Nat), o < l.length → ∀ j, j < 8 → (l.flatMap pscallV)[o * 8 + j]? = (pscallV (l.getD o noCall))[j]? := by
  intro l
  induction l with
  | nil => intro o h; simp at h
  | cons a l ih =>
    intro o h j hj
    rcases o with _ | o
    · rw [List.flatMap_cons, List.getElem?_append_left (by simp [pscallV]; omega)]
      simp
    · rw [List.flatMap_cons, List.getElem?_append_right (by simp [pscallV]; omega)]
      rw [show (o + 1) * 8 + j - (pscallV a).length = o * 8 + j by simp [pscallV]; omega]
      simpa using ih o (by simpa using h) j hj
section
variable {σ : Type} {Rep : ERepT σ} {L : Lin σ}
/-- The memory of a history. -/
structure RunM (w : World) (n gm go : Nat) (calls : List CallR) (many opn : Nat → Nat) (vo : Value) (fpk : Nat → Prop) (wr : World) : Prop where
  out : Own wr 48 8 vo calls.length (calls.flatMap pscallV)
  outG : Fresh w.heap.size vo
  many : Own wr 3 1 (.slice (some ⟨gm, 0, none⟩) n n) n (rangeI n fun q => (many q : Int))
  opn : Own wr 3 1 (.slice (some ⟨go, 0, none⟩) n n) n (rangeI n fun q => (opn q : Int))
  gG : w.heap.size ≤ gm ∧ w.heap.size ≤ go ∧ gm ≠ go
  no : ¬ fpk gm ∧ ¬ fpk go ∧ ∀ j, vo.ownBlock = some j → ¬ fpk j
structure RunE (Rep : ERepT σ) (w : World) (base : Nat) (fp : Nat → Prop) (b m : Nat) (E : σ) (fpk : Nat → Prop) (wr : World) : Prop where
  rep : Rep wr base fpk b m E
  old : ∀ j, j < w.heap.size → (fpk j ↔ fp j)
  keeps : Keeps fp w wr
theorem RunE.post {w wr w' : World} {base b m m' : Nat} {fp fpk fp' : Nat → Prop} {E E' : σ} (h : RunE Rep w base fp b m E fpk wr) (hR : Rep w' base fp' b m' E') (ho : ∀ k, k < wr.heap.size → (fp' k ↔ fpk k)) (hK : Keeps fpk wr w') : RunE Rep w base fp b m' E' fp' w' :=
  ⟨hR, fun j hj => by rw [ho j (Nat.lt_of_lt_of_le hj h.keeps.size)]; exact h.old j hj, h.keeps.trans hK fun k hk => by
    by_cases c : k < w.heap.size
    · exact .inl ((h.old k c).1 hk)
    · exact .inr (by omega)⟩
/-- The program's own blocks are turned. -/
theorem RunE.mine {fI fS fB fL fT : FuncId} (I : EngIf Rep L fI fS fB fL fT) {w wr w' : World} {base b m : Nat} {fp fpk : Nat → Prop} {E : σ} (h : RunE Rep w base fp b m E fpk wr) (hbw : base ≤ w.heap.size) {F : Nat → Prop} (hK : Keeps F wr w') (hF : ∀ k, F k → ¬ fpk k ∧ w.heap.size ≤ k) : RunE Rep w base fp b m E fpk w' :=
  ⟨I.keeps h.rep hK (fun k hk => ⟨(hF k hk).1, Nat.le_trans hbw (hF k hk).2⟩), h.old, h.keeps.trans hK fun k hk => .inr (hF k hk).2⟩
theorem RunM.post {w wr w' : World} {n gm go : Nat} {calls : List CallR} {many opn : Nat → Nat} {vo : Value} {fpk fp' : Nat → Prop} (h : RunM w n gm go calls many opn vo fpk wr) (ho : ∀ k, k < wr.heap.size → (fp' k ↔ fpk k)) (hK : Keeps fpk wr w') : RunM w n gm go calls many opn vo fp' w' := by
  have l1 := own_lt h.many rfl
  have l2 := own_lt h.opn rfl
  refine ⟨own_keeps h.out hK h.no.2.2, h.outG, own_keeps h.many hK ?_, own_keeps h.opn hK ?_, h.gG, ?_, ?_, ?_⟩
  · intro q hq; simp only [Value.ownBlock, Option.some.injEq] at hq; subst hq; exact h.no.1
  · intro q hq; simp only [Value.ownBlock, Option.some.injEq] at hq; subst hq; exact h.no.2.1
  · rw [ho _ l1]; exact h.no.1
  · rw [ho _ l2]; exact h.no.2.1
  · intro j hj; rw [ho _ (own_lt h.out hj)]; exact h.no.2.2 j hj
theorem psrangeI_const (n : Nat) (f : Nat → Int) (h : ∀ q, f q = 0) : rangeI n f = List.replicate n (.int .i64 0) := by
  apply List.ext_getElem?
  intro i
  by_cases hi : i < n
  · simp [ints, hi, h]
  · simp [ints, hi]
def RunP (Rep : ERepT σ) (w : World) (base : Nat) (fp : Nat → Prop) (b m : Nat) (R : RunS σ) (e : Ending) (w' : World) : Prop :=
  ∃ v fpk, e = .returned v ∧ RunE Rep w base fp b m R.E fpk w' ∧ Own w' 48 8 v R.calls.length (R.calls.flatMap pscallV) ∧ Fresh w.heap.size v ∧ (∀ j, v.ownBlock = some j → ¬ fpk j)
theorem psrangeI_upd (n p : Nat) (f : Nat → Nat) (v : Nat) (hp : p < n) : (rangeI n fun q => (f q : Int)).set p (.int .i64 v) = rangeI n fun q => ((upd f p v q : Nat) : Int) := by
  rw [upd_cast]
  exact rangeI_set n p (fun q => (f q : Int)) v hp
theorem psops_cell {w w' : World} {len m base : Nat} {ba oa : Nat} {f : Nat → Nat → Int} (hv : ∀ i j, i < len → j < m → w.cell? ⟨ba, oa + i * m + j, none⟩ = some (.int .i64 (f i j))) (hb : ba < w.heap.size) {F : Nat → Prop} (hK : Keeps F w w') (hF : ¬ F ba) {i j : Nat} (hi : i < len) (hj : j < m) : w'.cell? ⟨ba, oa + i * m + j, none⟩ = some (.int .i64 (f i j)) :=
  hK.cellSome hF (hv i j hi hj)
theorem RunM.set {w w2 : World} {n gm go : Nat} {calls : List CallR} {many opn : Nat → Nat} {vo : Value} {fpk : Nat → Prop} (h : RunM w n gm go calls many opn vo fpk w2) {q : Nat} (hq : q < n) (x y : Nat) :
    RunM w n gm go calls (upd many q x) (upd opn q y) vo fpk ((w2.setCell ⟨gm, q, none⟩ (.int .i64 x)).setCell ⟨go, q, none⟩ (.int .i64 y)) := by
  have m1 := (World.ownsRow.stored h.many q (.int .i64 x)).1
  rw [psrangeI_upd n q many x hq] at m1
  have k1 := Keeps.one w2 ⟨gm, q, none⟩ (.int .i64 (x : Int))
  have o1 := own_keeps h.opn k1 (fun j hj e => by simp only [Value.ownBlock, Option.some.injEq] at hj; have := h.gG.2.2; simp only at e; omega)
  have o2 := (World.ownsRow.stored o1 q (.int .i64 y)).1
  rw [psrangeI_upd n q opn y hq] at o2
  have k2 := Keeps.one (w2.setCell ⟨gm, q, none⟩ (.int .i64 (x : Int))) ⟨go, q, none⟩ (.int .i64 (y : Int))
  have m2 := own_keeps m1 k2 (fun j hj e => by simp only [Value.ownBlock, Option.some.injEq] at hj; have := h.gG.2.2; simp only at e; omega)
  have t1 := own_keeps h.out k1 (fun j hj e => by simp only at e; subst e; exact own_type_ne h.out h.many (by decide) hj rfl)
  have t2 := own_keeps t1 k2 (fun j hj e => by simp only at e; subst e; exact own_type_ne h.out h.opn (by decide) hj rfl)
  exact ⟨t2, h.outG, m2, o2, h.gG, h.no⟩
theorem RunM.more {w w4 w5 : World} {n gm go : Nat} {calls : List CallR} {many opn : Nat → Nat} {vo v' : Value} {fpk : Nat → Prop} (h : RunM w n gm go calls many opn vo fpk w4) (c : CallR) (hO : Own w5 48 8 v' (calls.length + 1) (calls.flatMap pscallV ++ pscallV c)) (hg : w4.grownBy w5 vo.ownBlock) (hat : v'.ownBlock = vo.ownBlock ∨ v'.ownBlock = some w4.heap.size) (hlt : ∀ j, fpk j → j < w4.heap.size) (hw : w.heap.size ≤ w4.heap.size) :
    RunM w n gm go (calls ++ [c]) many opn v' fpk w5 := by
  have kk : Keeps (fun q => vo.ownBlock = some q) w4 w5 := (Keeps.refl _ w4).grown hg (fun k e => .inl e)
  refine ⟨by simpa [List.flatMap_append] using hO, ?_, own_keeps h.many kk (fun j hj e => own_type_ne h.many h.out (by decide) hj e), own_keeps h.opn kk (fun j hj e => own_type_ne h.opn h.out (by decide) hj e), h.gG, h.no.1, h.no.2.1, ?_⟩
  · intro j hj
    rcases hat with e | e <;> rw [e] at hj
    · exact h.outG j hj
    · injection hj with hj; omega
  · intro j hj hf
    rcases hat with e | e <;> rw [e] at hj
    · exact h.no.2.2 j hj hf
    · injection hj with hj; have := hlt j hf; omega
theorem RunM.fin {w w2 : World} {n gm go gc cc : Nat} {calls : List CallR} {many opn : Nat → Nat} {fpk : Nat → Prop} (h : RunM w n gm go calls many opn (.slice (some ⟨gc, 0, none⟩) calls.length cc) fpk w2) {o : Nat} (ho : o < calls.length) (k r : Int) :
    RunM w n gm go (calls.set o { calls.getD o noCall with to := k, resp := r }) many opn (.slice (some ⟨gc, 0, none⟩) calls.length cc) fpk ((w2.setCell ⟨gc, o * 8 + 3, none⟩ (.int .i64 k)).setCell ⟨gc, o * 8 + 4, none⟩ (.int .i64 r)) := by
  have t1 := (World.ownsRow.stored h.out (o * 8 + 3) (.int .i64 k)).1
  have t2 := (World.ownsRow.stored t1 (o * 8 + 4) (.int .i64 r)).1
  rw [pscalls_set _ _ _ _ ho] at t2
  have kk : Keeps (fun j => j = gc) w2 ((w2.setCell ⟨gc, o * 8 + 3, none⟩ (.int .i64 k)).setCell ⟨gc, o * 8 + 4, none⟩ (.int .i64 r)) := (((Keeps.refl (fun j => j = gc) w2).set gc _ (.inl rfl) _).set gc _ (.inl rfl) _)
  exact ⟨by simpa using t2, h.outG, own_keeps h.many kk (fun j hj e => by subst e; exact own_type_ne h.many h.out (by decide) hj rfl), own_keeps h.opn kk (fun j hj e => by subst e; exact own_type_ne h.opn h.out (by decide) hj rfl), h.gG, h.no⟩
theorem RunM.ext {w wr : World} {n gm go : Nat} {calls : List CallR} {many many' opn : Nat → Nat} {vo : Value} {fpk : Nat → Prop} (h : RunM w n gm go calls many opn vo fpk wr) (e : ∀ q, many' q = many q) : RunM w n gm go calls many' opn vo fpk wr := by
  have : many' = many := funext e
  rw [this]; exact h
set_option maxRecDepth 100000 in
set_option maxHeartbeats 6400000 in
theorem ps_run (I : EngOfPs Rep L) {w : World} {base : Nat} {fp : Nat → Prop} {b m : Nat} {E0 : σ} (hR : Rep w base fp b m E0) (hz : ZeroIf L E0) (hbw : base ≤ w.heap.size) (a : Option Addr) (len cap : Nat) (f : Nat → Nat → Int)
    (hv : IsOps w a len f 5) (hab : 0 < len → ∀ ba oa, a = some ⟨ba, oa, none⟩ → ba < base) (hl : len ≤ 1500) (hm : m + len < 1000000) :
    Calls Try.prog 16 #[.pointer (some ⟨b, 0, none⟩), .int .i64 L.n, .slice a len cap] w (RunP Rep w base fp b (m + len) (runS L (evAt f) ⟨E0, [], fun _ => 0⟩ len)) := by
  have hn := I.small
  have hmk := run_make_row' (P := Try.prog) 22 3 (.int .i64 0) 8 Try.underlying22 infoInt rfl .i64 .i64 L.n (by omega) (by omega)
  have hfp : ∀ j, fp j → j < w.heap.size := fun j hj => (I.lt hR j hj).2
  have hzr : ∀ _ : Nat, List.replicate L.n (Value.int .i64 0) = rangeI L.n fun q => ((fun _ => 0 : Nat → Nat) q : Int) := fun _ => (psrangeI_const L.n (fun _ => 0) (fun _ => rfl)).symm
  have hM0 : RunM w L.n w.heap.size (w.heap.size + 1) [] (fun _ => 0) (fun _ => 0) (.slice none 0 0) fp ((w.alloc (.cells (madeCells #[.int .i64 0] L.n) 3)).alloc (.cells (madeCells #[.int .i64 0] L.n) 3)) := by
    have o1 := own_made w 3 (.int .i64 0) L.n (by simp only [maxLen]; omega)
    have o2 := own_made (w.alloc (.cells (madeCells #[.int .i64 0] L.n) 3)) 3 (.int .i64 0) L.n (by simp only [maxLen]; omega)
    rw [hzr 0] at o1 o2
    rw [World.size_alloc] at o2
    exact ⟨World.ownsRow_nil .., fun k hk => by simp [Value.ownBlock] at hk, o1.alloc _, o2, ⟨Nat.le_refl _, by omega, by omega⟩, fun h => by have := hfp _ h; omega, fun h => by have := hfp _ h; omega, fun j hj => by simp [Value.ownBlock] at hj⟩
  have hE0 : RunE Rep w base fp b m E0 fp ((w.alloc (.cells (madeCells #[.int .i64 0] L.n) 3)).alloc (.cells (madeCells #[.int .i64 0] L.n) 3)) := by
    have k0 : Keeps (fun _ => False) w ((w.alloc (.cells (madeCells #[.int .i64 0] L.n) 3)).alloc (.cells (madeCells #[.int .i64 0] L.n) 3)) := ((Keeps.refl _ _).alloc _).alloc _
    exact ⟨I.keeps hR k0 (fun k h => h.elim), fun _ _ => Iff.rfl, k0.mono (fun k h => h.elim)⟩
  have HM0 := Lib.hid hM0
  have HE0 := Lib.hid hE0
  have HV := Lib.hid hv
  have HAB := Lib.hid hab
  have hfpb : ∀ j, fp j → base ≤ j := fun j hj => (I.lt hR j hj).1
  have HFP := Lib.hid hfp
  have HFPB := Lib.hid hfpb
  clear hM0 hE0 hv hab hzr hfp hfpb
  go_enter Try.func16, Try.ntmps16
  go_wp2_with fail
  go_loopw [7, 10] (fun vo iv wr => ∃ (k : Nat) (fpk : Nat → Prop), k ≤ len ∧ iv = .int .i64 k ∧ RunE Rep w base fp b (m + k) (runS L (evAt f) ⟨E0, [], fun _ => 0⟩ k).E fpk wr ∧
    RunM w L.n w.heap.size (w.heap.size + 1) (runS L (evAt f) ⟨E0, [], fun _ => 0⟩ k).calls (fun q => L.many (runS L (evAt f) ⟨E0, [], fun _ => 0⟩ k).E q) (runS L (evAt f) ⟨E0, [], fun _ => 0⟩ k).opn vo fpk wr) (fun _ iv _ => len - (intOf iv).toNat)
  case atStart =>
    refine ⟨0, fp, Nat.zero_le _, rfl, HE0.out, ?_⟩
    have h := HM0.out
    refine ⟨h.out, h.outG, ?_, h.opn, h.gG, h.no⟩
    have e : (rangeI L.n fun q => (L.many E0 q : Int)) = rangeI L.n fun q => ((fun _ => 0 : Nat → Nat) q : Int) := by
      unfold rangeI
      congr 1
      apply List.map_congr_left
      intro q hq
      rw [hz.many q (List.mem_range.1 hq)]
    show Own _ _ _ _ _ (rangeI L.n fun q => (L.many E0 q : Int))
    rw [e]
    exact h.many
  case round =>
    obtain ⟨k, fpk, hk, rfl, hE, hM⟩ := hrel
    clear HM0 HE0
    have hRI := hz.rinv.run (evAt f) k
    have hmany := fun q (hq : q < L.n) => (runS_E L (evAt f) ⟨E0, [], fun _ => 0⟩ k) ▸ (L.many_run (evAt f) hz.inv q k)
    have hcl := calls_run (L := L) (evAt f) ⟨E0, [], fun _ => 0⟩ k
    have hmq : ∀ q, q < L.n → L.many (runS L (evAt f) ⟨E0, [], fun _ => 0⟩ k).E q ≤ 1500 := fun q hq => by
      have h1 := hmany q hq
      have h2 := hz.many q hq
      rw [h2] at h1
      omega
    have hcl' : (runS L (evAt f) ⟨E0, [], fun _ => 0⟩ k).calls.length ≤ k := by simpa using hcl
    clear hmany hcl
    by_cases hkl : k < len
    · obtain ⟨ba, oa, rfl, hb, hcells⟩ := HV.out (by omega)
      have hbab : ba < base := HAB.out (by omega) ba oa rfl
      have hnb : ∀ {F : Nat → Prop}, (∀ j, F j → base ≤ j) → ¬ F ba := fun hF h => by have := hF ba h; omega
      have hev : runS L (evAt f) ⟨E0, [], fun _ => 0⟩ (k + 1) = evS L (runS L (evAt f) ⟨E0, [], fun _ => 0⟩ k) k ⟨f k 0, f k 1, ⟨f k 2, f k 3, f k 4⟩⟩ := rfl
      have hc0 : ∀ j, j < 5 → wr.cell? ⟨ba, oa + k * 5 + j, none⟩ = some (.int .i64 (f k j)) := fun j hj => hE.keeps.cellSome (hnb HFPB.out) (hcells k j hkl hj)
      have e0 := hc0 0 (by decide)
      have e1 := hc0 1 (by decide)
      have e2 := hc0 2 (by decide)
      have e3 := hc0 3 (by decide)
      have e4 := hc0 4 (by decide)
      rw [Nat.add_zero] at e0
      have hbawr : ba < wr.heap.size := Nat.lt_of_lt_of_le hb hE.keeps.size
      generalize runS L (evAt f) ⟨E0, [], fun _ => 0⟩ k = R at *
      generalize f k 0 = kd at *
      generalize f k 1 = pp at *
      generalize f k 2 = oc at *
      generalize f k 3 = ox at *
      generalize f k 4 = oy at *
      have i1 : (0 : Int) ≤ (k : Int) := by omega
      have i2 : (k : Int) < (len : Int) := by omega
      have d0 : decide ((k : Int) < len) = true := decide_eq_true i2
      have i64k : IntKind.i64.wrap ((k : Int) + 1) = (k : Int) + 1 := IntWalk.i64_in _ (by omega)
      have HEV := Lib.hid hev
      have HE := Lib.hid hE
      have HM := Lib.hid hM
      have HRI := Lib.hid hRI
      have HMQ := Lib.hid hmq
      clear hev hE hM hRI hmq hc0 hcells
      have hsame : evS L R k ⟨kd, pp, ⟨oc, ox, oy⟩⟩ = R → (RunE Rep w base fp b (m + (k + 1)) (runS L (evAt f) ⟨E0, [], fun _ => 0⟩ (k + 1)).E fpk wr ∧ RunM w L.n w.heap.size (w.heap.size + 1) (runS L (evAt f) ⟨E0, [], fun _ => 0⟩ (k + 1)).calls (fun q => L.many (runS L (evAt f) ⟨E0, [], fun _ => 0⟩ (k + 1)).E q) (runS L (evAt f) ⟨E0, [], fun _ => 0⟩ (k + 1)).opn u7 fpk wr) := fun h => by
        rw [HEV.out, h]
        exact ⟨⟨I.mono HE.out.rep (by omega), HE.out.old, HE.out.keeps⟩, HM.out⟩
      have HSM := Lib.hid hsame
      clear hsame
      by_cases hp0 : pp < 0
      · have d1 : decide (pp < 0) = true := decide_eq_true hp0
        go_wp2_with fail
        go_roundw
        case rel => exact ⟨k + 1, fpk, by omega, by go_num, HSM.out (by unfold evS; rw [if_neg (fun h => by have := h.1; simp only at this; omega)])⟩
        case measure => simp [intOf]; omega
      · have d1 : decide (pp < 0) = false := decide_eq_false hp0
        by_cases hpn : (L.n : Int) ≤ pp
        · have d2 : decide ((L.n : Int) ≤ pp) = true := decide_eq_true hpn
          go_wp2_with fail
          go_roundw
          case rel => exact ⟨k + 1, fpk, by omega, by go_num, HSM.out (by unfold evS; rw [if_neg (fun h => by have := h.2; simp only at this; omega)])⟩
          case measure => simp [intOf]; omega
        · have d2 : decide ((L.n : Int) ≤ pp) = false := decide_eq_false hpn
          obtain ⟨q, rfl⟩ := Int.eq_ofNat_of_zero_le (show 0 ≤ pp by omega)
          have hq : q < L.n := by omega
          have hqr : (0 : Int) ≤ (q : Int) ∧ (q : Int) < L.n := ⟨by omega, by omega⟩
          have hin : (0 : Int) ≤ (⟨kd, (q : Int), ⟨oc, ox, oy⟩⟩ : EvR).p ∧ (⟨kd, (q : Int), ⟨oc, ox, oy⟩⟩ : EvR).p < L.n := hqr
          by_cases hk0 : kd = 0
          · subst hk0
            have HI := Lib.hid (I.invoke HE.out.rep (by omega) (q : Int) ⟨oc, ox, oy⟩)
            by_cases hc : codeI L R.E (q : Int) ⟨oc, ox, oy⟩ = 0
            · have hi : invI L R.E (q : Int) ⟨oc, ox, oy⟩ = L.invoke R.E q ⟨oc, ox, oy⟩ := by unfold invI; rw [if_pos hc]; rfl
              have hc' := (codeI_zero L _ _ _).1 hc
              rw [Int.toNat_natCast] at hc'
              rw [hc, hi] at HI
              have HC := Lib.hid hc'
              have HC0 := Lib.hid hc
              clear hc hc' hi
              have hmb := HMQ.out q hq
              have hcl2 : R.calls.length ≤ 1500 := by omega
              have i64m : IntKind.i64.wrap ((L.many R.E q : Int) + 1) = (L.many R.E q : Int) + 1 := IntWalk.i64_in _ (by omega)
              obtain ⟨ao, co, evo⟩ := own_shape HM.out.out
              subst evo
              go_wp2_with (go_at_call 22; refine HI.out.mono ?_; rintro e w2 ⟨rfl, fp2, hR2, hfp2, hK2⟩; have hE2 := (HE.out.post hR2 hfp2 hK2); have hM2 := (HM.out.post hfp2 hK2); have e0 : w2.cell? ⟨ba, oa + k * 5, none⟩ = some (.int .i64 0) := hK2.cellSome (hnb (fun j hj => (I.lt HE.out.rep j hj).1)) e0; have e2 : w2.cell? ⟨ba, oa + k * 5 + 2, none⟩ = some (.int .i64 oc) := hK2.cellSome (hnb (fun j hj => (I.lt HE.out.rep j hj).1)) e2; have e3 : w2.cell? ⟨ba, oa + k * 5 + 3, none⟩ = some (.int .i64 ox) := hK2.cellSome (hnb (fun j hj => (I.lt HE.out.rep j hj).1)) e3; have e4 : w2.cell? ⟨ba, oa + k * 5 + 4, none⟩ = some (.int .i64 oy) := hK2.cellSome (hnb (fun j hj => (I.lt HE.out.rep j hj).1)) e4; have gq : w2.cell? ⟨w.heap.size, q, none⟩ = some (.int .i64 (L.many R.E q)) := (by rw [World.ownsRow.cellAt hM2.many q (by omega), ints_get _ _ (by simpa using hq)]; simp [hq]); have gf : w2.frozen? ⟨w.heap.size, q, none⟩ = false := World.ownsRow.frozenAt hM2.many q; have oq : w2.cell? ⟨w.heap.size + 1, q, none⟩ = some (.int .i64 (R.opn q)) := (by rw [World.ownsRow.cellAt hM2.opn q (by omega), ints_get _ _ (by simpa using hq)]; simp [hq]); have of : w2.frozen? ⟨w.heap.size + 1, q, none⟩ = false := World.ownsRow.frozenAt hM2.opn q; have HE2 := Lib.hid hE2; have HM2 := Lib.hid hM2; clear hR2 hfp2 hK2 hE2 hM2)
              have hM4 : RunM w L.n w.heap.size (w.heap.size + 1) R.calls (upd (fun q => L.many R.E q) q (L.many R.E q + 1)) (upd R.opn q R.calls.length) (.slice ao R.calls.length co) fp2 ((w2.setCell ⟨w.heap.size, q, none⟩ (.int .i64 ((L.many R.E q : Int) + 1))).setCell ⟨w.heap.size + 1, q, none⟩ (.int .i64 R.calls.length)) := HM2.out.set hq (L.many R.E q + 1) R.calls.length
              have k24 : Keeps (fun j => j = w.heap.size ∨ j = w.heap.size + 1) w2 ((w2.setCell ⟨w.heap.size, q, none⟩ (.int .i64 ((L.many R.E q : Int) + 1))).setCell ⟨w.heap.size + 1, q, none⟩ (.int .i64 R.calls.length)) := (((Keeps.refl (fun j => j = w.heap.size ∨ j = w.heap.size + 1) w2).set _ _ (.inl (.inl rfl)) _).set _ _ (.inl (.inr rfl)) _)
              have hE4 := HE2.out.mine I hbw k24 (fun j hj => by
                rcases hj with e | e
                · subst e; exact ⟨HM2.out.no.1, Nat.le_refl _⟩
                · subst e; exact ⟨HM2.out.no.2.1, by omega⟩)
              have hb4 : ¬ (ba = w.heap.size ∨ ba = w.heap.size + 1) := by omega
              have e2 := k24.cellSome (p := ⟨ba, oa + k * 5 + 2, none⟩) hb4 e2
              have e3 := k24.cellSome (p := ⟨ba, oa + k * 5 + 3, none⟩) hb4 e3
              have e4 := k24.cellSome (p := ⟨ba, oa + k * 5 + 4, none⟩) hb4 e4
              have e0 := k24.cellSome (p := ⟨ba, oa + k * 5, none⟩) hb4 e0
              have gq : ((w2.setCell ⟨w.heap.size, q, none⟩ (.int .i64 ((L.many R.E q : Int) + 1))).setCell ⟨w.heap.size + 1, q, none⟩ (.int .i64 R.calls.length)).cell? ⟨w.heap.size, q, none⟩ = some (.int .i64 ((L.many R.E q : Int) + 1)) := by
                rw [World.ownsRow.cellAt hM4.many q (by omega), ints_get _ _ (by simpa using hq)]; simp [hq, upd_same]
              have hww : w.heap.size ≤ ((w2.setCell ⟨w.heap.size, q, none⟩ (.int .i64 ((L.many R.E q : Int) + 1))).setCell ⟨w.heap.size + 1, q, none⟩ (.int .i64 R.calls.length)).heap.size := hE4.keeps.size
              clear oq of gf HE2 HM2 k24
              generalize ((w2.setCell ⟨w.heap.size, q, none⟩ (.int .i64 ((L.many R.E q : Int) + 1))).setCell ⟨w.heap.size + 1, q, none⟩ (.int .i64 R.calls.length)) = w4 at *
              have K4 : Keeps (fun _ => False) w4 w4.drew := (Keeps.refl _ _).drew
              have HM4 := Lib.hid hM4
              have HE4 := Lib.hid hE4
              have HO4 := Lib.hid (own_drew hM4.out)
              have HG := Lib.hid (own_lt hM4.many rfl)
              clear hM4 hE4
              refine start_ (n := 16) (S := fun w' => w'.cell? ⟨w.heap.size, q, none⟩ = some (.int .i64 ((L.many R.E q : Int) + 1)) ∧ w'.cell? ⟨ba, oa + k * 5 + 2, none⟩ = some (.int .i64 oc) ∧ w'.cell? ⟨ba, oa + k * 5 + 3, none⟩ = some (.int .i64 ox) ∧ w'.cell? ⟨ba, oa + k * 5 + 4, none⟩ = some (.int .i64 oy)) (ds := [14]) #[false, false, false, false, false, false, false, false, false, false, false, false, false, false, false, false] (by kernel_rfl) rfl rfl ⟨gq, e2, e3, e4⟩ (fun hHeld => ?_)
              refine pure_ (i := 0) (N := some 64) (v := ?_) (a' := ?_) #[true, false, false, false, false, false, false, false, false, false, false, false, false, false, false, false] rfl rfl (by kernel_rfl) (fun _ _ _ h => h) (Or.inl ⟨by rfl, ?_⟩) ?_ ?_
              rotate_left
              · intro w'
                go_simp
                with_reducible rfl
              rotate_left
              · simp only [Act.put, List.setIfInBounds_toArray, List.set_cons_zero, List.set_cons_succ, i64_w, i32_w]
                rfl
              refine pure_ (i := 1) (N := some 65) (v := ?_) (a' := ?_) #[true, true, false, false, false, false, false, false, false, false, false, false, false, false, false, false] rfl rfl (by kernel_rfl) (fun _ _ _ h => h) (Or.inl ⟨by rfl, ?_⟩) ?_ ?_
              rotate_left
              · intro w'
                go_simp
                with_reducible rfl
              rotate_left
              · simp only [Act.put, List.setIfInBounds_toArray, List.set_cons_zero, List.set_cons_succ, i64_w, i32_w]
                rfl
              refine pure_ (i := 2) (N := some 66) (v := ?_) (a' := ?_) #[true, true, true, false, false, false, false, false, false, false, false, false, false, false, false, false] rfl rfl (by kernel_rfl) (fun _ _ _ h => h) (Or.inl ⟨by rfl, ?_⟩) ?_ ?_
              rotate_left
              · intro w'
                go_simp
                with_reducible rfl
              rotate_left
              · simp only [Act.put, List.setIfInBounds_toArray, List.set_cons_zero, List.set_cons_succ, i64_w, i32_w]
                rfl
              refine pure_ (i := 3) (N := some 67) (v := ?_) (a' := ?_) #[true, true, true, true, false, false, false, false, false, false, false, false, false, false, false, false] rfl rfl (by kernel_rfl) (fun _ _ _ h => h) (Or.inl ⟨by rfl, ?_⟩) ?_ ?_
              rotate_left
              · intro w'
                go_simp
                with_reducible rfl
              rotate_left
              · simp only [Act.put, List.setIfInBounds_toArray, List.set_cons_zero, List.set_cons_succ, i64_w, i32_w]
                rfl
              refine pure_ (i := 4) (N := some 68) (v := ?_) (a' := ?_) #[true, true, true, true, true, false, false, false, false, false, false, false, false, false, false, false] rfl rfl (by kernel_rfl) (fun _ _ _ h => h) (Or.inl ⟨by rfl, ?_⟩) ?_ ?_
              rotate_left
              · intro w'
                go_simp
                with_reducible rfl
              rotate_left
              · simp only [Act.put, List.setIfInBounds_toArray, List.set_cons_zero, List.set_cons_succ, i64_w, i32_w]
                rfl
              refine pure_ (i := 6) (N := some 70) (v := ?_) (a' := ?_) #[true, true, true, true, true, false, true, false, false, false, false, false, false, false, false, false] rfl rfl (by kernel_rfl) (fun _ _ _ h => h) (Or.inl ⟨by rfl, ?_⟩) ?_ ?_
              rotate_left
              · intro w'
                go_simp
                with_reducible rfl
              rotate_left
              · simp only [Act.put, List.setIfInBounds_toArray, List.set_cons_zero, List.set_cons_succ, i64_w, i32_w]
                rfl
              refine pure_ (i := 7) (N := some 71) (v := ?_) (a' := ?_) #[true, true, true, true, true, false, true, true, false, false, false, false, false, false, false, false] rfl rfl (by kernel_rfl) (fun _ _ _ h => h) (Or.inl ⟨by rfl, ?_⟩) ?_ ?_
              rotate_left
              · intro w'
                go_simp
                with_reducible rfl
              rotate_left
              · simp only [Act.put, List.setIfInBounds_toArray, List.set_cons_zero, List.set_cons_succ, i64_w, i32_w]
                rfl
              refine pure_ (i := 8) (N := some 72) (v := ?_) (a' := ?_) #[true, true, true, true, true, false, true, true, true, false, false, false, false, false, false, false] rfl rfl (by kernel_rfl) (fun _ _ _ h => h) (Or.inl ⟨by rfl, ?_⟩) ?_ ?_
              rotate_left
              · intro w'
                go_simp
                with_reducible rfl
              rotate_left
              · simp only [Act.put, List.setIfInBounds_toArray, List.set_cons_zero, List.set_cons_succ, i64_w, i32_w]
                rfl
              refine pure_ (i := 9) (N := some 73) (v := ?_) (a' := ?_) #[true, true, true, true, true, false, true, true, true, true, false, false, false, false, false, false] rfl rfl (by kernel_rfl) (fun _ _ _ h => h) (Or.inl ⟨by rfl, ?_⟩) ?_ ?_
              rotate_left
              · intro w'
                go_simp
                with_reducible rfl
              rotate_left
              · simp only [Act.put, List.setIfInBounds_toArray, List.set_cons_zero, List.set_cons_succ, i64_w, i32_w]
                rfl
              refine pure_ (i := 10) (N := some 74) (v := ?_) (a' := ?_) #[true, true, true, true, true, false, true, true, true, true, true, false, false, false, false, false] rfl rfl (by kernel_rfl) (fun _ _ _ h => h) (Or.inl ⟨by rfl, ?_⟩) ?_ ?_
              rotate_left
              · intro w'
                go_simp
                with_reducible rfl
              rotate_left
              · simp only [Act.put, List.setIfInBounds_toArray, List.set_cons_zero, List.set_cons_succ, i64_w, i32_w]
                rfl
              refine take_ (i := 5) (N := some 69) (v := ?_) (a' := ?_) #[true, true, true, true, true, true, true, true, true, true, true, false, false, false, false, false] rfl rfl (by kernel_rfl) (fun _ _ _ h => h) (Or.inl ⟨by rfl, ?_⟩) hHeld ?_ ?_
              rotate_left
              · rintro w' ⟨s0, s1, s2, s3⟩
                go_simp
                with_reducible rfl
              rotate_left
              · simp only [Act.put, List.setIfInBounds_toArray, List.set_cons_zero, List.set_cons_succ, i64_w, i32_w]
                rfl
              refine take_ (i := 11) (N := some 75) (v := ?_) (a' := ?_) #[true, true, true, true, true, true, true, true, true, true, true, true, false, false, false, false] rfl rfl (by kernel_rfl) (fun _ _ _ h => h) (Or.inl ⟨by rfl, ?_⟩) hHeld ?_ ?_
              rotate_left
              · rintro w' ⟨s0, s1, s2, s3⟩
                go_simp
                with_reducible rfl
              rotate_left
              · simp only [Act.put, List.setIfInBounds_toArray, List.set_cons_zero, List.set_cons_succ, i64_w, i32_w]
                rfl
              refine pure_ (i := 12) (N := some 76) (v := ?_) (a' := ?_) #[true, true, true, true, true, true, true, true, true, true, true, true, true, false, false, false] rfl rfl (by kernel_rfl) (fun _ _ _ h => h) (Or.inl ⟨by rfl, ?_⟩) ?_ ?_
              rotate_left
              · intro w'
                go_simp
                with_reducible rfl
              rotate_left
              · simp only [Act.put, List.setIfInBounds_toArray, List.set_cons_zero, List.set_cons_succ, i64_w, i32_w]
                rfl
              refine one_ (i := 13) (N := some 77) #[true, true, true, true, true, true, true, true, true, true, true, true, true, true, false, false] rfl rfl (by kernel_rfl) (by decide) (fun K hK => ?_)
              refine value_ (w1 := ?_) (v := ?_) (by rfl) rfl ?_ ?_
              rotate_left 2
              · go_simp
                constructor
                · rfl
                · rfl
              try clear hHeld
              refine hK.out _ _ ⟨((K4.alloc (.cells #[.int .i64 q, .int .i64 ((L.many R.E q : Int) + 1), .int .i64 k, .int .i64 (-1), .int .i64 0, .int .i64 oc, .int .i64 ox, .int .i64 oy] 48)).cellSome (fun h => h) gq), ((K4.alloc (.cells #[.int .i64 q, .int .i64 ((L.many R.E q : Int) + 1), .int .i64 k, .int .i64 (-1), .int .i64 0, .int .i64 oc, .int .i64 ox, .int .i64 oy] 48)).cellSome (fun h => h) e2), ((K4.alloc (.cells #[.int .i64 q, .int .i64 ((L.many R.E q : Int) + 1), .int .i64 k, .int .i64 (-1), .int .i64 0, .int .i64 oc, .int .i64 ox, .int .i64 oy] 48)).cellSome (fun h => h) e3), ((K4.alloc (.cells #[.int .i64 q, .int .i64 ((L.many R.E q : Int) + 1), .int .i64 k, .int .i64 (-1), .int .i64 0, .int .i64 oc, .int .i64 ox, .int .i64 oy] 48)).cellSome (fun h => h) e4)⟩ (fun hHeld => ?_)
              clear hK K
              refine norm_ (a' := ?_) ?_ ?_
              rotate_left
              · show Act.put _ (some 77) _ = _
                simp only [Act.put, List.setIfInBounds_toArray, List.set_cons_zero, List.set_cons_succ, i64_w, i32_w]
                rfl
              refine last_ (i := 14) (N := some 78) #[true, true, true, true, true, true, true, true, true, true, true, true, true, true, true, false] rfl rfl (by kernel_rfl) (by decide) (fun K hK => ?_)
              refine append_own_ rfl rfl _ _ 32 rfl 48 (.agg #[.int .i64 0, .int .i64 0, .int .i64 0, .int .i64 0, .int .i64 0, .int .i64 0, .int .i64 0, .int .i64 0]) 8 64 Try.underlying32 psinfoCall rfl (by decide) (.slice ao R.calls.length co) R.calls.length (R.calls.flatMap pscallV) rfl (HO4.out.alloc (.cells #[.int .i64 q, .int .i64 ((L.many R.E q : Int) + 1), .int .i64 k, .int .i64 (-1), .int .i64 0, .int .i64 oc, .int .i64 ox, .int .i64 oy] 48)) ⟨w4.heap.size, 0, none⟩ 1 1 (pscallV ⟨q, L.many R.E q + 1, k, -1, 0, ⟨oc, ox, oy⟩⟩) rfl rfl (cells_new w4.drew (pscallV ⟨q, L.many R.E q + 1, k, -1, 0, ⟨oc, ox, oy⟩⟩) 48) (by intro u hu; simp [pscallV] at hu; rcases hu with rfl | rfl | rfl | rfl | rfl | rfl | rfl | rfl <;> rfl) (by omega) (by decide) ?_
              rintro v5 w5 hO5 hg5 hat5
              obtain ⟨a5, c5, rfl⟩ := own_shape hO5
              try clear hHeld
              refine hK.out _ _ ?_
              clear hK K
              refine norm_ (a' := ?_) ?_ ?_
              rotate_left
              · show Act.put _ (some 78) _ = _
                simp only [Act.put, List.setIfInBounds_toArray, List.set_cons_zero, List.set_cons_succ, i64_w, i32_w]
                rfl
              refine pure_ (i := 15) (N := some 7) (v := ?_) (a' := ?_) #[true, true, true, true, true, true, true, true, true, true, true, true, true, true, true, true] rfl rfl (by kernel_rfl) (fun _ _ _ h => h) (Or.inl ⟨by rfl, ?_⟩) ?_ ?_
              rotate_left
              · intro w'
                go_simp
                with_reducible rfl
              rotate_left
              · simp only [Act.put, List.setIfInBounds_toArray, List.set_cons_zero, List.set_cons_succ, i64_w, i32_w]
                rfl
              try clear hHeld
              refine done_ (by kernel_rfl) ?_
              have hfin := RunM.more (HM4.out.post (fun _ _ => Iff.rfl) (K4.alloc (.cells #[.int .i64 q, .int .i64 ((L.many R.E q : Int) + 1), .int .i64 k, .int .i64 (-1), .int .i64 0, .int .i64 oc, .int .i64 ox, .int .i64 oy] 48) |>.mono (fun _ h => h.elim))) ⟨q, L.many R.E q + 1, k, -1, 0, ⟨oc, ox, oy⟩⟩ hO5 hg5 hat5 (fun j hj => by have := (I.lt HE4.out.rep j hj).2; have h5 : w4.drew.heap.size = w4.heap.size := rfl; simp; omega) (by have := HG.out; have h5 : w4.drew.heap.size = w4.heap.size := rfl; simp; omega)
              have k5 : Keeps (fun j => (Value.slice ao R.calls.length co).ownBlock = some j) w4 w5 := (K4.alloc (.cells #[.int .i64 q, .int .i64 ((L.many R.E q : Int) + 1), .int .i64 k, .int .i64 (-1), .int .i64 0, .int .i64 oc, .int .i64 ox, .int .i64 oy] 48) |>.mono (fun _ h => h.elim)).grown hg5 (fun j e => .inl e)
              have hE5 := HE4.out.mine I hbw k5 (fun j hj => ⟨HM4.out.no.2.2 j hj, HM4.out.outG j hj⟩)
              have e05 : w5.cell? ⟨ba, oa + k * 5, none⟩ = some (.int .i64 0) := k5.cellSome (p := ⟨ba, oa + k * 5, none⟩) (fun hf => by have := HM4.out.outG ba hf; omega) e0
              have hs : evS L R k ⟨0, (q : Int), ⟨oc, ox, oy⟩⟩ = R.begun L q ⟨oc, ox, oy⟩ k := by unfold evS; rw [if_pos hin, if_pos rfl, if_pos HC0.out]; rfl
              have hmq2 : ∀ j, L.many (L.invoke R.E q ⟨oc, ox, oy⟩) j = upd (fun q => L.many R.E q) q (L.many R.E q + 1) j := fun j => by
                rw [L.many_invoke R.E q ⟨oc, ox, oy⟩ HRI.out.inv hq HC.out.2.2.2]
                by_cases e : j = q
                · subst e; rw [if_pos rfl, upd_same]
                · rw [if_neg e, upd_ne _ _ e]; rfl
              have HFIN := Lib.hid hfin
              have HE5 := Lib.hid hE5
              have HS := Lib.hid hs
              have HMQ2 := Lib.hid hmq2
              clear hfin hE5 hs hmq2 e0 e2 e3 e4 gq hO5 hg5 hat5 K4 k5
              go_wp2_with fail
              go_roundw
              case rel => exact ⟨k + 1, fp2, by omega, by go_num, by rw [HEV.out, HS.out]; exact HE5.out, by rw [HEV.out, HS.out]; exact by simpa [RunS.begun] using HFIN.out.ext HMQ2.out⟩
              case measure => simp [intOf]; omega
            · have hi : invI L R.E (q : Int) ⟨oc, ox, oy⟩ = R.E := by unfold invI; rw [if_neg hc]
              rw [hi] at HI
              have hcb : (codeI L R.E (q : Int) ⟨oc, ox, oy⟩ == 0) = false := by simpa using hc
              have hs : evS L R k ⟨0, (q : Int), ⟨oc, ox, oy⟩⟩ = R := by unfold evS; rw [if_pos hin, if_pos rfl, if_neg hc]
              have HS := Lib.hid hs
              clear hc hi hs HSM
              generalize codeI L R.E (q : Int) ⟨oc, ox, oy⟩ = cv at *
              go_wp2_with (go_at_call 22; refine HI.out.mono ?_; rintro e w2 ⟨rfl, fp2, hR2, hfp2, hK2⟩; have hE2 := Lib.hid (HE.out.post hR2 hfp2 hK2); have hM2 := Lib.hid (HM.out.post hfp2 hK2); have e0 : w2.cell? ⟨ba, oa + k * 5, none⟩ = some (.int .i64 0) := hK2.cellSome (hnb (fun j hj => (I.lt HE.out.rep j hj).1)) e0; clear hR2 hfp2 hK2)
              go_roundw
              case rel => exact ⟨k + 1, fp2, by omega, by go_num, by rw [HEV.out, HS.out]; exact hE2.out, by rw [HEV.out, HS.out]; exact hM2.out⟩
              case measure => simp [intOf]; omega
          · have hk0b : (kd == 0) = false := by simpa using hk0
            by_cases hk1 : kd = 1
            · subst hk1
              have HI := Lib.hid (I.step HE.out.rep (by omega) (q : Int))
              by_cases hd : (stpI L R.E (q : Int)).2.2 = true
              · have hs : evS L R k ⟨1, (q : Int), ⟨oc, ox, oy⟩⟩ = R.ended q k (stpI L R.E (q : Int)).1 (stpI L R.E (q : Int)).2.1 := by unfold evS; rw [if_pos hin, if_neg hk0, if_pos rfl, if_pos hd]; rfl
                rw [hd] at HI
                have hbz : L.busy R.E q = true := by
                  by_cases hbz : L.busy R.E q = true
                  · exact hbz
                  · rw [stpI_neg L _ _ (fun h => hbz (by simpa using h.2.2))] at hd; simp at hd
                have hmm : ∀ j, L.many (stpI L R.E (q : Int)).1 j = L.many R.E j := fun j => by
                  rw [stpI_pos L _ _ ⟨hqr.1, hqr.2, by simpa using hbz⟩]; exact L.many_step _ _ HRI.out.inv (by omega) (by simpa using hbz) j
                obtain ⟨hol, -⟩ := HRI.out.opn q hq hbz
                obtain ⟨gc, cc, evo, -⟩ := own_open HM.out.out (by omega)
                subst evo
                have HS := Lib.hid hs
                have HMM := Lib.hid hmm
                have o1 : (0 : Int) ≤ (R.opn q : Int) := by omega
                have o2 : (R.opn q : Int) < (R.calls.length : Int) := by omega
                have ngo : gc ≠ w.heap.size + 1 := fun e => own_type_ne HM.out.out HM.out.opn (by decide) rfl (congrArg some e.symm)
                clear hs hd hmm HSM hbz
                generalize stpI L R.E (q : Int) = t at *
                go_wp2_with (go_at_call 23; refine HI.out.mono ?_; rintro e w2 ⟨rfl, fp2, hR2, hfp2, hK2⟩; have hE2 := (HE.out.post hR2 hfp2 hK2); have hM2 := (HM.out.post hfp2 hK2); have oq : w2.cell? ⟨w.heap.size + 1, q, none⟩ = some (.int .i64 (R.opn q)) := (by rw [World.ownsRow.cellAt hM2.opn q (by omega), ints_get _ _ (by simpa using hq)]; simp [hq]); have c3 : w2.cell? ⟨gc, R.opn q * 8 + 3, none⟩ = some (.int .i64 (R.cat (R.opn q)).to) := (World.ownsRow.cellAt hM2.out (R.opn q * 8 + 3) (by omega)).trans (pscalls_at _ _ hol 3 (by decide)); have c4 : w2.cell? ⟨gc, R.opn q * 8 + 4, none⟩ = some (.int .i64 (R.cat (R.opn q)).resp) := (World.ownsRow.cellAt hM2.out (R.opn q * 8 + 4) (by omega)).trans (pscalls_at _ _ hol 4 (by decide)); have f3 : w2.frozen? ⟨gc, R.opn q * 8 + 3, none⟩ = false := World.ownsRow.frozenAt hM2.out _; have f4 : w2.frozen? ⟨gc, R.opn q * 8 + 4, none⟩ = false := World.ownsRow.frozenAt hM2.out _; have HE2 := Lib.hid hE2; have HM2 := Lib.hid hM2; clear hR2 hfp2 hK2 hE2 hM2)
                go_roundw
                case rel =>
                  have hm := HM2.out.fin hol k t.2.1
                  have kk : Keeps (fun j => j = gc) w2 ((w2.setCell ⟨gc, R.opn q * 8 + 3, none⟩ (.int .i64 k)).setCell ⟨gc, R.opn q * 8 + 4, none⟩ (.int .i64 t.2.1)) := (((Keeps.refl (fun j => j = gc) w2).set gc _ (.inl rfl) _).set gc _ (.inl rfl) _)
                  have he := HE2.out.mine I hbw kk (fun j hj => by subst hj; exact ⟨HM2.out.no.2.2 _ rfl, HM2.out.outG _ rfl⟩)
                  exact ⟨k + 1, fp2, by omega, by go_num, by rw [HEV.out, HS.out]; exact he, by rw [HEV.out, HS.out]; exact hm.ext HMM.out⟩
                case measure => simp [intOf]; omega
              · have hs : evS L R k ⟨1, (q : Int), ⟨oc, ox, oy⟩⟩ = { R with E := (stpI L R.E (q : Int)).1 } := by unfold evS; rw [if_pos hin, if_neg hk0, if_pos rfl, if_neg hd]
                have hd' : (stpI L R.E (q : Int)).2.2 = false := by simpa using hd
                have hmm : ∀ j, L.many (stpI L R.E (q : Int)).1 j = L.many R.E j := fun j => by
                  by_cases hbz : L.busy R.E q = true
                  · rw [stpI_pos L _ _ ⟨hqr.1, hqr.2, by simpa using hbz⟩]; exact L.many_step _ _ HRI.out.inv (by omega) (by simpa using hbz) j
                  · rw [stpI_neg L _ _ (fun h => hbz (by simpa using h.2.2))]
                rw [hd'] at HI
                have HS := Lib.hid hs
                have HMM := Lib.hid hmm
                clear hs hd hd' hmm HSM
                generalize stpI L R.E (q : Int) = t at *
                go_wp2_with (go_at_call 23; refine HI.out.mono ?_; rintro e w2 ⟨rfl, fp2, hR2, hfp2, hK2⟩; have hE2 := Lib.hid (HE.out.post hR2 hfp2 hK2); have hM2 := Lib.hid (HM.out.post hfp2 hK2); clear hR2 hfp2 hK2)
                go_roundw
                case rel => exact ⟨k + 1, fp2, by omega, by go_num, by rw [HEV.out, HS.out]; exact hE2.out, by rw [HEV.out, HS.out]; exact hM2.out.ext HMM.out⟩
                case measure => simp [intOf]; omega
            · have hk1b : (kd == 1) = false := by simpa using hk1
              go_wp2_with fail
              go_roundw
              case rel => exact ⟨k + 1, fpk, by omega, by go_num, HSM.out (by unfold evS; rw [if_pos hin, if_neg hk0, if_neg hk1])⟩
              case measure => simp [intOf]; omega
    · have hkl2 : k = len := by omega
      subst hkl2
      have d0 : decide ((k : Int) < k) = false := decide_eq_false (by omega)
      have HE := Lib.hid hE
      have HM := Lib.hid hM
      clear hE hM hRI hmq
      go_wp2_with fail
      go_ret
      exact ⟨_, fpk, rfl, HE.out, HM.out.out, HM.out.outG, HM.out.no.2.2⟩
end
end Go.Proofs.Ytjfenjnnpikkdaa
/- The chapter's example. -/
namespace Go.Proofs.Ytjfenjnnpikkdaa
open Go.RowKit
theorem ps_up (w : World) : Calls Try.prog 13 #[] w (Tells w true) :=
  ps_awake (psIf 2 awkS (by decide)) (psSolo 2 awkS) (by decide) rfl (ps_zero 2 awkS) (fun w vl hx => ps_start awkS hx (by decide) 2 (by decide +kernel) (by decide) (by decide)) w
end Go.Proofs.Ytjfenjnnpikkdaa
