/-
  Package psim: New.
-/
import Derived.Test.YtjfenjnnpikkdaaKd
set_option linter.unusedVariables false
set_option linter.unusedSimpArgs false
namespace Go.Proofs.Ytjfenjnnpikkdaa
set_option maxRecDepth 100000
open Go.RowKit
open Go.Proofs.YtjfenjnnpikkdaaW.PrintLast

theorem mach_cellsA {w : World} {bm : Nat} {vc vs : Value} {S : List Int} (h : Mach w bm vc vs ⟨[], S⟩) (n : Nat) (hn : n ≤ 64) :
    Calls Try.prog 39 #[.pointer (some ⟨bm, 0, none⟩), .int .i64 n] w fun e w' =>
      e = .returned (.int .i64 0) ∧ ∃ vc', Mach w' bm vc' vs ⟨List.replicate n 0, S⟩ ∧ Keeps (machF bm vc vs) w w' ∧ (∀ k, machF bm vc' vs k → machF bm vc vs k ∨ w.heap.size ≤ k) := by
  have := mach_cells h n (by simp)
  rw [if_pos (by omega)] at this
  refine this.mono ?_
  rintro e w' ⟨rfl, vc', h1, h2, h3⟩
  exact ⟨rfl, vc', by simpa using h1, h2, h3⟩
theorem Mach.grown {w w' : World} {bm : Nat} {vc vs : Value} {M : MS} (h : Mach w bm vc vs M) (hg : w.grownBy w' none) : Mach w' bm vc vs M :=
  h.keeps (G := fun _ => False) ((Keeps.refl _ w).grown hg (fun k e => by cases e)) (fun _ _ h => h)

theorem Mach.notF {w : World} {bm b : Nat} {vc vs : Value} {M : MS} {cs : Array Value} {T : TypeId} (h : Mach w bm vc vs M) (hb : Blk w b cs T) (h1 : T ≠ 108) (h2 : T ≠ 3) : ¬ machF bm vc vs b := fun hf => by
  rcases hf with hf | hf | hf
  · exact blk_ne hb h.blk h1 hf
  · exact own_blk_ne h.cells hb (fun e => h2 e.symm) hf
  · exact own_blk_ne h.steps hb (fun e => h2 e.symm) hf
theorem Mach.notO {w : World} {bm : Nat} {vc vs v : Value} {M : MS} {e : TypeId} {s n : Nat} {xs : List Value} (h : Mach w bm vc vs M) (ho : Own w e s v n xs) (h1 : e ≠ 108) (h2 : e ≠ 3) : ∀ q, v.ownBlock = some q → ¬ machF bm vc vs q := fun q hq hf => by
  rcases hf with hf | hf | hf
  · subst hf; exact own_blk_ne ho h.blk h1 hq
  · exact own_type_ne ho h.cells h2 hq hf
  · exact own_type_ne ho h.steps h2 hq hf
/-- The engine as New makes it, behind k of the processes. -/
structure NewL (w : World) (n be bm : Nat) (vc vs va : Value) (k : Nat) (vp : Value) (pa : Nat → Nat) (w' : World) : Prop where
  bel : Below w.heap.size w w'
  eng : Blk w' be #[ptrV bm, .int .i64 0, .int .i64 n, vp, va, .slice none 0 0] 76
  engG : w.heap.size ≤ be
  mach : Mach w' bm vc vs ⟨List.replicate (n + 1) 0, List.replicate n 0⟩
  machG : ∀ k, machF bm vc vs k → w.heap.size ≤ k
  asked : Own w' 91 5 va 1 (askedV noAsked)
  askedG : Fresh w.heap.size va
  procs : Own w' 78 1 vp k ((List.range k).map fun p => ptrV (pa p))
  procsG : Fresh w.heap.size vp
  proc : ∀ p, p < k → Blk w' (pa p) (procV be p newPr 0 .nilFunc (.slice none 0 0)) 81
  procG : ∀ p, p < k → w.heap.size ≤ pa p
  inj : ∀ p q, p < k → q < k → pa p = pa q → p = q
theorem NewL.keeps {w w1 w2 : World} {n be bm k : Nat} {vc vs va vp : Value} {pa : Nat → Nat} (h : NewL w n be bm vc vs va k vp pa w1) (kk : Keeps (fun _ => False) w1 w2) : NewL w n be bm vc vs va k vp pa w2 :=
  ⟨h.bel.trans (kk.below (fun _ h => h.elim) h.bel.size), h.eng.keeps kk id, h.engG, h.mach.keeps kk (fun _ _ => id), h.machG, own_keeps h.asked kk (fun _ _ => id), h.askedG, own_keeps h.procs kk (fun _ _ => id), h.procsG, fun p hp => (h.proc p hp).keeps kk id, h.procG, h.inj⟩
theorem NewL.next {w w1 w2 : World} {n be bm k b : Nat} {vc vs va vp vp' : Value} {pa : Nat → Nat} (h : NewL w n be bm vc vs va k vp pa w1) (hb : Blk w1 b (procV be k newPr 0 .nilFunc (.slice none 0 0)) 81) (hbG : w.heap.size ≤ b) (hnew : ∀ p, p < k → pa p ≠ b)
    (hO : Own w2 78 1 vp' (k + 1) ((List.range k).map (fun p => ptrV (pa p)) ++ [ptrV b])) (hg : w1.grownBy w2 vp.ownBlock) (hat : vp'.ownBlock = vp.ownBlock ∨ vp'.ownBlock = some w1.heap.size) :
    NewL w n be bm vc vs va (k + 1) vp' (fun p => if p = k then b else pa p) (w2.setCell ⟨be, 3, none⟩ vp') := by
  have kk : Keeps (fun q => vp.ownBlock = some q) w1 w2 := (Keeps.refl _ w1).grown hg (fun k e => .inl e)
  have nB : ∀ {b : Nat} {cs : Array Value} {T : TypeId}, Blk w1 b cs T → 78 ≠ T → ¬ vp.ownBlock = some b := fun hb hT => own_blk_ne h.procs hb hT
  have hE2 := h.eng.keeps kk (nB h.eng (by decide))
  have hM2 := h.mach.keeps kk (fun q hq e => by
    rcases hq with rfl | hq | hq
    · exact nB h.mach.blk (by decide) e
    · exact own_type_ne h.mach.cells h.procs (by decide) hq e
    · exact own_type_ne h.mach.steps h.procs (by decide) hq e)
  have hA2 := own_keeps h.asked kk (fun q hq e => own_type_ne h.asked h.procs (by decide) hq e)
  refine ⟨?_, by have := hE2.set 3 vp'; simpa using this, h.engG, ?_, h.machG, own_set hA2 hE2 (by decide) 3 vp', h.askedG, ?_, ?_, ?_, ?_, ?_⟩
  · refine h.bel.trans ?_
    have k2 : Keeps (fun q => vp.ownBlock = some q ∨ q = be) w1 _ := (kk.mono (fun q hq => .inl hq)).set be 3 (.inl (.inr rfl)) vp'
    refine k2.below (fun q hq => ?_) h.bel.size
    rcases hq with hq | hq
    · exact h.procsG q hq
    · subst hq; exact h.engG
  · exact hM2.other (a := ⟨be, 3, none⟩) (fun hf => by
      rcases hf with hf | hf | hf
      · exact blk_ne hE2 hM2.blk (by decide) hf
      · exact own_blk_ne hM2.cells hE2 (by decide) hf
      · exact own_blk_ne hM2.steps hE2 (by decide) hf) vp'
  · have := own_set hO hE2 (by decide) 3 vp'
    have e : ((List.range (k + 1)).map fun p => ptrV (if p = k then b else pa p)) = (List.range k).map (fun p => ptrV (pa p)) ++ [ptrV b] := by
      rw [List.range_succ, List.map_append]
      congr 1
      · apply List.map_congr_left
        intro p hp
        rw [if_neg (by have := List.mem_range.1 hp; omega)]
      · simp
    rw [e]
    exact this
  · intro q hq
    rcases hat with e | e <;> rw [e] at hq
    · exact h.procsG q hq
    · injection hq with hq
      have := h.bel.size
      omega
  · intro p hp
    by_cases e : p = k
    · subst e
      rw [if_pos rfl]
      exact (hb.keeps kk (nB hb (by decide))).other (a := ⟨be, 3, none⟩) (blk_ne hb h.eng (by decide)) vp'
    · rw [if_neg e]
      have hbp := h.proc p (by omega)
      exact (hbp.keeps kk (nB hbp (by decide))).other (a := ⟨be, 3, none⟩) (blk_ne hbp h.eng (by decide)) vp'
  · intro p hp
    split
    · exact hbG
    · exact h.procG p (by omega)
  · intro p q hp hq e
    split at e <;> split at e
    · omega
    · exact (hnew q (by omega) e.symm).elim
    · exact (hnew p (by omega) e).elim
    · exact h.inj p q (by omega) (by omega) e

end Go.Proofs.Ytjfenjnnpikkdaa
