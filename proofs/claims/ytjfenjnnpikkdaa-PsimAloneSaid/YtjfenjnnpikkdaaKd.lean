/-
  Package slices at records: Clone; what the walks of a copy know.
-/
import Derived.Test.YtjfenjnnpikkdaaWLast
import Derived.Maps.AppendAt
import Derived.Laws.OwnMore
import Derived.WalkSpells
import Derived.Test.YtjfenjnnpikkdaaKa
import Derived.Test.YtjfenjnnpikkdaaKb
import Derived.Test.YtjfenjnnpikkdaaKc
namespace Go.Proofs.Ytjfenjnnpikkdaa
set_option linter.unusedVariables false
set_option maxRecDepth 100000
set_option linter.unusedSimpArgs false
open Go.RowKit

theorem infoRec : (Try.prog.info? 39).map (fun i => (i.zero, i.size, i.bytes)) = some (some (.agg #[.int .i64 0, .int .i64 0, .int .i64 0, .int .i64 0, .int .i64 0, .int .i64 0, .int .i64 0]), 7, 56) := by kernel_rfl
theorem recs_len (l : List Rec) : (l.flatMap recV).length = l.length * 7 := by
  induction l with
  | nil => rfl
  | cons r l ih => simp [List.flatMap_cons, recV, ih]; omega
theorem recs_one (l : List Rec) : ∀ u ∈ l.flatMap recV, u.oneCell' = true := by
  intro u hu
  obtain ⟨r, _, hr⟩ := List.mem_flatMap.1 hu
  simp [recV] at hr
  rcases hr with rfl | rfl | rfl | rfl | rfl | rfl | rfl <;> rfl
/-- What Clone leaves: a row of its own. -/
def CloneR (w : World) (xs : List Rec) (e : Ending) (w' : World) : Prop :=
  ∃ v', e = .returned v' ∧ Own w' 39 7 v' xs.length (xs.flatMap recV) ∧ (∀ k, v'.ownBlock = some k → w.heap.size ≤ k) ∧ Below w.heap.size w w'
theorem own_news {w : World} {e : TypeId} {s n c : Nat} {a : Option Addr} {xs : List Value} (h : Own w e s (.slice a n c) n xs) : ∀ ad, a = some ad → ∀ j u, xs[j]? = some u → w.cell? (ad.add j) = some u := by
  intro ad had j u hu
  rcases h.2 with ⟨h1, h2⟩ | ⟨g, cap, cur, h1, _⟩
  · simp at h1; rw [h1.1] at had; simp at had
  · simp at h1
    rw [h1.1] at had
    injection had with had
    subst had
    refine World.ownsRow.cells h (g := g) ?_ j u hu
    rw [h1.1]; rfl

set_option maxHeartbeats 1600000 in
theorem sl_clone_rec {w : World} {v : Value} {xs : List Rec} (h : Own w 39 7 v xs.length (xs.flatMap recV)) (hl : xs.length ≤ 1073741824) :
    Calls Try.prog 40 #[v] w (CloneR w xs) := by
  obtain ⟨i0, hi, hz0, hz1, hz2⟩ := info_parts infoRec
  obtain ⟨a, c, rfl⟩ := own_shape h
  have hnews := own_news h
  have hq : ∀ (w : World) (a : Option Addr) (n c n' c' : Nat), (binOp .eql 34 (.slice a n c) (.slice none n' c')).run Try.prog w = .ok (.bool a.isNone) w := fun w a n c n' c' => Lib.run_eql_slice_nil w _ _ a n c n' c' Try.underlying34
  cases a with
  | none =>
    have hx : xs = [] := by
      rcases h.2 with ⟨h1, h2⟩ | ⟨g, cap, cur, h1, _⟩
      · exact List.eq_nil_of_length_eq_zero h2
      · simp at h1
    subst hx
    have fin : CloneR w [] (.returned (.slice none 0 0)) w := ⟨_, rfl, World.ownsRow_nil .., by simp [Value.ownBlock], Below.refl _ _⟩
    have HF := Lib.hid fin
    clear fin hnews h
    go_enter Try.func40, Try.ntmps40
    go_wp2
    go_ret
    exact HF.out
  | some ad =>
    have hn := hnews ad rfl
    have fin : ∀ v' w1, Own w1 39 7 v' (0 + xs.length) ([] ++ xs.flatMap recV) → (w.alloc (.cells #[] 39)).grownBy w1 (some w.heap.size) → (v'.ownBlock = some w.heap.size ∨ v'.ownBlock = some (w.heap.size + 1)) → CloneR w xs (.returned v') w1 := by
      intro v' w1 hown hg hat
      refine ⟨v', rfl, by simpa using hown, ?_, ((Below.refl _ w).alloc (Nat.le_refl _) _).grown hg (by simp) (by rintro k ⟨⟩; exact Nat.le_refl _)⟩
      intro k hk
      rcases hat with e | e <;> rw [e] at hk <;> injection hk <;> omega
    have HF := Lib.hid fin
    have HO : Own (w.alloc (.cells #[] 39)) 39 7 (.slice (some ⟨w.heap.size, 0, none⟩) 0 0) 0 [] :=
      World.ownsRow_lit (base := 0) (e := 39) (size := 7) w #[] 0 (Nat.zero_le _) (by simp) (by simp)
    have HW := Lib.hid HO
    have HC : Hid (∀ j u, (xs.flatMap recV)[j]? = some u → (w.alloc (.cells #[] 39)).cell? (ad.add j) = some u) := fun j u hu => Lib.cell?_alloc_some _ (hn j u hu)
    clear fin hn hnews h HO
    go_enter Try.func40, Try.ntmps40
    go_wp2_with (at_builtin; refine wpList_append_own_at _ rfl _ _ 34 rfl 0 39 i0 (.agg #[.int .i64 0, .int .i64 0, .int .i64 0, .int .i64 0, .int .i64 0, .int .i64 0, .int .i64 0]) 7 56 Try.underlying34 hi hz0 hz1 hz2 rfl (by decide) (.slice (some ⟨w.heap.size, 0, none⟩) 0 0) _ _ rfl HW.out ad xs.length c (xs.flatMap recV) rfl (recs_len xs) HC.out (recs_one xs) (by simp only [maxLen]; omega) (by omega) (Nat.zero_le _) ?_; intro v' w1 hown hgrow hnil hat)
    go_ret
    exact HF.out _ _ hown hgrow (by simpa [Value.ownBlock] using hat)

/-- A copy that is being made, since w. -/
structure VMid (w w' : World) (n b : Nat) (v0 vL vl vr vg : Value) (V : Ver) : Prop where
  bel : Below w.heap.size w w'
  ge : w.heap.size ≤ b
  blk : Blk w' b #[.int .i64 V.st.kind, vL, .bool V.st.isSealed, .int .i64 V.st.to, vl, vr, vg] 84
  rdL : Rd w' vL V.st.L
  lenL : V.st.L.length ≤ 300
  orL : vL = v0 ∨ (Own w' 3 1 vL V.st.L.length (ints V.st.L) ∧ Fresh w.heap.size vL ∧ ∀ k, vL.ownBlock = some k → vl.ownBlock ≠ some k ∧ vr.ownBlock ≠ some k)
  lt0 : ∀ a m c, v0 = .slice a m c → 0 < m → ∀ k, v0.ownBlock = some k → k < w.heap.size
  ol : Own w' 3 1 vl n (rangeI n fun q => (V.last q : Int))
  fl : Fresh w.heap.size vl
  or : Own w' 3 1 vr n (rangeI n V.resp)
  fr : Fresh w.heap.size vr
  og : Own w' 39 7 vg V.log.length (V.log.flatMap recV)
  fg : Fresh w.heap.size vg
  d1 : ∀ k, vl.ownBlock = some k → vr.ownBlock ≠ some k
  d2 : 0 < V.st.L.length → ∀ k, vl.ownBlock = some k → vL.ownBlock ≠ some k
  d3 : 0 < V.st.L.length → ∀ k, vr.ownBlock = some k → vL.ownBlock ≠ some k
theorem VMid.below {w wr W : World} {n b : Nat} {v0 vL vl vr vg : Value} {V : Ver} (h : VMid w wr n b v0 vL vl vr vg V) (hB : Below wr.heap.size wr W) : VMid w W n b v0 vL vl vr vg V := by
  have k := Keeps.ofBelow (F := fun _ => False) hB
  exact ⟨h.bel.trans (hB.mono h.bel.size), h.ge, h.blk.below hB h.blk.lt, h.rdL.below hB (Nat.le_refl _), h.lenL, h.orL.imp id (fun g => ⟨own_keeps g.1 k (by simp), g.2⟩), h.lt0, own_keeps h.ol k (by simp), h.fl, own_keeps h.or k (by simp), h.fr, own_keeps h.og k (by simp), h.fg, h.d1, h.d2, h.d3⟩
theorem rangeI_set (n p : Nat) (f : Nat → Int) (v : Int) (hp : p < n) : (rangeI n f).set p (.int .i64 v) = rangeI n (fun q => if q = p then v else f q) := by
  apply List.ext_getElem?
  intro i
  rw [List.getElem?_set]
  by_cases e : p = i
  · subst e
    simp [ints, hp]
  · rw [if_neg e]
    by_cases hi : i < n
    · have e' : ¬ i = p := fun h => e h.symm
      simp [ints, hi, e']
    · simp [ints, hi]
theorem upd_cast (f : Nat → Nat) (p a : Nat) : (fun q => ((upd f p a q : Nat) : Int)) = fun q => if q = p then (a : Int) else (f q : Int) := by
  funext q; unfold upd; split <;> rfl
theorem upd_fun (f : Nat → Int) (p : Nat) (a : Int) : upd f p a = fun q => if q = p then a else f q := rfl
theorem rd_len {w w' : World} {v : Value} {xs ys : List Int} (h : Rd w v xs) (h' : Rd w' v ys) : xs.length = ys.length := by
  obtain ⟨a, c, e, _⟩ := h
  obtain ⟨a', c', e', _⟩ := h'
  rw [e] at e'
  injection e'
/-- A round of 'with': o the operation's block, br the record's. -/
theorem VMid.round {w w2 w3 w4 w5 w6 : World} {n b br gl gr cl cr a : Nat} {v0 vL vg vn vg' : Value} {V : Ver} {r : Asked} {A : Nat → Asked} {o : Obj} {cs rs : Array Value} {B4 : Array Value}
    (hM : VMid w w2 n b v0 vL (.slice (some ⟨gl, 0, none⟩) n cl) (.slice (some ⟨gr, 0, none⟩) n cr) vg V) (hA : A a = r) (hp : r.proc < n) (hbr : w.heap.size ≤ br) (hbb : br ≠ b) (hR : Blk w2 br rs 39) (hgb : vg.ownBlock ≠ some br)
    (rdn : Rd w3 vn (stepS V.st r.op).1.L) (hlen : (stepS V.st r.op).1.L.length ≤ 300) (bel : Below w2.heap.size w2 w3) (orn : vn = vL ∨ (Own w3 3 1 vn (stepS V.st r.op).1.L.length (ints (stepS V.st r.op).1.L) ∧ Fresh w2.heap.size vn))
    (hw4 : Keeps (fun k => k = b ∨ k = br) w3 w4) (hB4 : Blk w4 b B4 84) (hR4 : Blk w4 br cs 39)
    (hw5 : w5 = (w4.setCell ⟨gl, r.proc, none⟩ (.int .i64 (a : Nat))).setCell ⟨gr, r.proc, none⟩ (.int .i64 (stepS V.st r.op).2))
    (hgrow : (w5.alloc o).grownBy w6 vg.ownBlock) (hown : Own w6 39 7 vg' (V.log.length + 1) (V.log.flatMap recV ++ recV ⟨V.log.length, r.proc, r.many, r.op, (stepS V.st r.op).2⟩)) (hat : vg'.ownBlock = vg.ownBlock ∨ vg'.ownBlock = some (w5.alloc o).heap.size)
    (hB7 : Blk (w6.setCell ⟨b, 6, none⟩ vg') b #[.int .i64 (stepS V.st r.op).1.kind, vn, .bool (stepS V.st r.op).1.isSealed, .int .i64 (stepS V.st r.op).1.to, .slice (some ⟨gl, 0, none⟩) n cl, .slice (some ⟨gr, 0, none⟩) n cr, vg'] 84) :
    VMid w (w6.setCell ⟨b, 6, none⟩ vg') n b v0 vn (.slice (some ⟨gl, 0, none⟩) n cl) (.slice (some ⟨gr, 0, none⟩) n cr) vg' (V.one A a) := by
  have hgl : w.heap.size ≤ gl := hM.fl gl rfl
  have hgr : w.heap.size ≤ gr := hM.fr gr rfl
  have hne : gl ≠ gr := fun e => hM.d1 gl rfl (by rw [e]; rfl)
  have k23 : Keeps (fun _ => False) w2 w3 := Keeps.ofBelow bel
  have k45 : Keeps (fun k => k = gl ∨ k = gr) w4 w5 := by
    rw [hw5]; exact ((Keeps.refl _ _).set gl _ (.inl (.inl rfl)) _).set gr _ (.inl (.inr rfl)) _
  have k56 : Keeps (fun k => vg.ownBlock = some k) w5 w6 := ((Keeps.refl _ w5).alloc o).grown hgrow (fun k hk => .inl hk)
  have k67 : Keeps (fun k => k = b) w6 (w6.setCell ⟨b, 6, none⟩ vg') := Keeps.one _ ⟨b, 6, none⟩ _
  have z0 := hM.bel.size
  have z2 := k23.size; have z3 := hw4.size; have z4 := k45.size; have z5 := k56.size
  have hls : (w5.alloc o).heap.size = w5.heap.size + 1 := by simp
  -- rows
  have l3 := own_keeps hM.ol k23 (by simp)
  have r3 := own_keeps hM.or k23 (by simp)
  have g3 := own_keeps hM.og k23 (by simp)
  have B3 := hM.blk.keeps k23 (by simp)
  have R3 := hR.keeps k23 (by simp)
  have far : ∀ {e : TypeId} {s m : Nat} {v : Value} {xs : List Value}, Own w3 e s v m xs → e ≠ 84 → e ≠ 39 → Own w4 e s v m xs := fun h h1 h2 => own_keeps h hw4 (fun q hq hf => by
    rcases hf with rfl | rfl
    · exact own_blk_ne h B3 h1 hq
    · exact own_blk_ne h R3 h2 hq)
  have l4 := far l3 (by decide) (by decide)
  have r4 := far r3 (by decide) (by decide)
  have g4 : Own w4 39 7 vg V.log.length (V.log.flatMap recV) := own_keeps g3 hw4 (fun q hq hf => by
    rcases hf with rfl | rfl
    · exact own_blk_ne g3 B3 (by decide) hq
    · exact hgb hq)
  have hbl : gl ≠ b := fun e => own_blk_ne l4 hB4 (by decide) (by rw [← e]; rfl)
  have hbr' : gr ≠ b := fun e => own_blk_ne r4 hB4 (by decide) (by rw [← e]; rfl)
  have B5 : Blk w5 b B4 84 := hB4.keeps k45 (by rintro (e | e); exact hbl e.symm; exact hbr' e.symm)
  have hgvb : vg.ownBlock ≠ some b := own_blk_ne g4 hB4 (by decide)
  have B6 : Blk w6 b B4 84 := B5.keeps k56 hgvb
  have gty : ∀ {s m : Nat} {v : Value} {xs : List Value}, Own w4 3 s v m xs → ∀ k, v.ownBlock = some k → vg.ownBlock ≠ some k := fun h k hk => own_type_ne h g4 (by decide) hk
  have to7 : ∀ {m : Nat} {v : Value} {xs : List Value}, Own w5 3 1 v m xs → (∀ k, v.ownBlock = some k → vg.ownBlock ≠ some k) → Own (w6.setCell ⟨b, 6, none⟩ vg') 3 1 v m xs := fun h1 h2 => by
    have h6 := own_keeps h1 k56 (fun q hq hf => h2 q hq hf)
    exact own_keeps h6 k67 (fun q hq hf => own_blk_ne h6 B6 (by decide) (by rw [hq, hf]))
  have l5 : Own w5 3 1 (.slice (some ⟨gl, 0, none⟩) n cl) n (rangeI n fun q => ((upd V.last r.proc a q : Nat) : Int)) := by
    rw [hw5, upd_cast, ← rangeI_set n r.proc (fun q => (V.last q : Int)) a hp]
    exact own_keeps (World.ownsRow.stored l4 r.proc _).1 (Keeps.one _ ⟨gr, r.proc, none⟩ _) (fun q hq hf => hne (by simp [Value.ownBlock] at hq; rw [hq, hf]))
  have r5 : Own w5 3 1 (.slice (some ⟨gr, 0, none⟩) n cr) n (rangeI n (upd V.resp r.proc (stepS V.st r.op).2)) := by
    rw [hw5, upd_fun, ← rangeI_set n r.proc V.resp _ hp]
    have := own_keeps r4 (Keeps.one w4 ⟨gl, r.proc, none⟩ (.int .i64 (a : Nat))) (fun q hq hf => hne (by simp [Value.ownBlock] at hq; rw [hq, hf]))
    exact (World.ownsRow.stored this r.proc _).1
  -- the state's numbers
  have hcase : (vn = v0 ∨ (Own w3 3 1 vn (stepS V.st r.op).1.L.length (ints (stepS V.st r.op).1.L) ∧ Fresh w.heap.size vn ∧ ∀ k, vn.ownBlock = some k → k ≠ gl ∧ k ≠ gr)) ∧ (0 < (stepS V.st r.op).1.L.length → ∀ k, vn.ownBlock = some k → k ≠ gl ∧ k ≠ gr) := by
    rcases orn with e | ⟨e, hf⟩
    · subst e
      have hl := rd_len rdn hM.rdL
      have gg : 0 < (stepS V.st r.op).1.L.length → ∀ k, vn.ownBlock = some k → k ≠ gl ∧ k ≠ gr := fun h0 k hk => ⟨fun h => hM.d2 (by omega) gl rfl (h ▸ hk), fun h => hM.d3 (by omega) gr rfl (h ▸ hk)⟩
      refine ⟨?_, gg⟩
      rcases hM.orL with h | ⟨h1, h2, h4⟩
      · exact .inl h
      · have h3 := own_keeps h1 k23 (by simp)
        have e := rd_inj rdn (own_rd h3)
        rw [e]
        exact .inr ⟨h3, h2, fun k hk => ⟨fun h => (h4 k hk).1 (by rw [h]; rfl), fun h => (h4 k hk).2 (by rw [h]; rfl)⟩⟩
    · have hlg := own_lt hM.ol (k := gl) rfl
      have hlr := own_lt hM.or (k := gr) rfl
      have gg : ∀ k, vn.ownBlock = some k → k ≠ gl ∧ k ≠ gr := fun k hk => ⟨by have := hf k hk; omega, by have := hf k hk; omega⟩
      exact ⟨.inr ⟨e, fun k hk => Nat.le_trans z0 (hf k hk), gg⟩, fun _ => gg⟩
  obtain ⟨hor, hgg⟩ := hcase
  have hgvn : 0 < (stepS V.st r.op).1.L.length → ∀ k, vn.ownBlock = some k → k ≠ b ∧ k ≠ br ∧ vg.ownBlock ≠ some k := by
    intro h0 k hk
    rcases hor with e | ⟨e, _⟩
    · obtain ⟨x, c, e2, _⟩ := id rdn
      have hlt := hM.lt0 _ _ _ (e ▸ e2) h0 k (e ▸ hk)
      refine ⟨by have := hM.ge; omega, by omega, fun e => ?_⟩
      have := hM.fg k e; omega
    · have e4 := far e (by decide) (by decide)
      refine ⟨fun h => own_blk_ne e B3 (by decide) (h ▸ hk), fun h => own_blk_ne e R3 (by decide) (h ▸ hk), gty e4 k hk⟩
  subst hA
  refine ⟨?_, hM.ge, hB7, ?_, hlen, ?_, hM.lt0, to7 l5 (gty l4), hM.fl, to7 r5 (gty r4), hM.fr, ?_, ?_, hM.d1, ?_, ?_⟩
  · refine (((((hM.bel.trans (k23.below (B := w.heap.size) (by simp) z0)).trans (hw4.below (by rintro k (rfl | rfl); exact hM.ge; exact hbr) (by omega))).trans (k45.below (by rintro k (rfl | rfl); exact hgl; exact hgr) (by omega))).trans (k56.below (fun k hk => hM.fg k hk) (by omega))).trans (k67.below (by rintro k rfl; exact hM.ge) (by omega)))
  · have q4 := rd_keeps rdn hw4 (fun h0 k hk hf => by have := hgvn h0 k hk; rcases hf with e | e; exact this.1 e; exact this.2.1 e)
    have q5 := rd_keeps q4 k45 (fun h0 k hk hf => by have := hgg h0 k hk; rcases hf with e | e; exact this.1 e; exact this.2 e)
    have q6 := rd_keeps q5 k56 (fun h0 k hk hf => (hgvn h0 k hk).2.2 hf)
    exact rd_keeps q6 k67 (fun h0 k hk hf => (hgvn h0 k hk).1 hf)
  · refine hor.imp id fun ⟨e, hf, hgo⟩ => ⟨?_, hf, fun k hk => ⟨fun h => (hgo k hk).1 (by simp [Value.ownBlock] at h; exact h.symm), fun h => (hgo k hk).2 (by simp [Value.ownBlock] at h; exact h.symm)⟩⟩
    have e4 := far e (by decide) (by decide)
    exact to7 (own_keeps e4 k45 (fun q hq hf => by have := hgo q hq; rcases hf with h | h; exact this.1 h; exact this.2 h)) (gty e4)
  · have h7 := own_keeps hown k67 (fun q hq hf => own_blk_ne hown B6 (by decide) (by rw [hq, hf]))
    have e1 : (V.one A a).log.length = V.log.length + 1 := by simp [Ver.one]
    have e2 : (V.one A a).log.flatMap recV = V.log.flatMap recV ++ recV ⟨V.log.length, (A a).proc, (A a).many, (A a).op, (stepS V.st (A a).op).2⟩ := by simp [Ver.one]
    rw [e1, e2]
    exact h7
  · intro k hk
    rcases hat with e | e
    · exact hM.fg k (e ▸ hk)
    · rw [e] at hk; injection hk with hk; omega
  · intro h0 k hk e
    simp [Value.ownBlock] at hk
    exact (hgg h0 k e).1 hk.symm
  · intro h0 k hk e
    simp [Value.ownBlock] at hk
    exact (hgg h0 k e).2 hk.symm
/-- What 'with' leaves. -/
def WithP (w : World) (n : Nat) (v0 : Value) (V : Ver) (e : Ending) (w' : World) : Prop :=
  ∃ b vL vl vr vg, e = .returned (.pointer (some ⟨b, 0, none⟩)) ∧ VMid w w' n b v0 vL vl vr vg V
end Go.Proofs.Ytjfenjnnpikkdaa
/- Steps of a region that draws its order: an append onto a row of the program's own. -/
namespace Go.Proofs.Ytjfenjnnpikkdaa
set_option linter.unusedVariables false
set_option maxRecDepth 100000
set_option linter.unusedSimpArgs false
open Go.RowKit
open Go.Proofs.YtjfenjnnpikkdaaW.PrintLast
section
variable {P : Program} {ops : Array Oper} {Q : Exit → Act → World → Prop}
theorem append_own_ {oi : Oper} {N : Option Tmp} {a : Act} {w : World} {K : Act → World → Prop} (hg : oi.guard = none) (hN : oi.dst = N) (s x : Operand) (t : TypeId)
    (ho : oi.op = .call { callee := .builtin .append, args := #[s, x], argTypes := #[t, t] })
    (e : TypeId) (z : Value) (size bytes : Nat) (ht : P.underlying t = some (.slice e)) (hinfo : (P.info? e).map (fun i => (i.zero, i.size, i.bytes)) = some (some z, size, bytes)) (hzs : z.cells.size = size) (hsz : 0 < size)
    (v : Value) (n : Nat) (xs : List Value) (hs : a.eval s = v) (hown : Own w e size v n xs)
    (ad : Addr) (m c : Nat) (news : List Value) (hx : a.eval x = .slice (some ad) m c) (hl : news.length = m * size) (hnews : ∀ j u, news[j]? = some u → w.cell? (ad.add j) = some u) (h1 : ∀ u ∈ news, u.oneCell' = true)
    (h63 : n + m ≤ 1073741824) (hb : bytes ≤ 4096)
    (h : ∀ v' w', Own w' e size v' (n + m) (xs ++ news) → w.grownBy w' v.ownBlock → (v'.ownBlock = v.ownBlock ∨ v'.ownBlock = some w.heap.size) → K (a.put N v') w') :
    if Region.wanted oi (yielded ops a.tmps) = true then Oper.wp P oi a w K Q else K (a.put N undef) w := by
  obtain ⟨i, hi, hz, hsize, hby⟩ := info_parts hinfo
  have hbytes : (n + m) * bytes ≤ 140737488355328 := by
    have := Nat.mul_le_mul h63 hb
    omega
  obtain ⟨v', w', hr, h2, h3, h4, h5⟩ := run_append_own_at (P := P) w 0 t oi.type e i z size bytes ht hi hz hsize hby hzs hsz v n xs hown ad m c news hl hnews h1 (by simp only [maxLen]; omega) hbytes (Nat.zero_le _)
  refine value_ (w1 := w') (v := v') ?_ hN ?_ (h v' w' h2 h3 h5)
  · unfold Region.wanted; rw [hg]
  · unfold execOp
    simp only [ho, resolve, invoke, builtin, Sem.run_bind, Sem.run_pure, Result.andThen_ok, List.map_toArray, List.map_cons, List.map_nil, hs, hx, hr]
/-- A slice that is made. -/
theorem make_own_ {oi : Oper} {N : Option Tmp} {a : Act} {w : World} {K : Act → World → Prop} (hg : oi.guard = none) (hN : oi.dst = N) (l c : Operand) (t : TypeId) (ho : oi.op = .makeSlice t l c)
    (e : TypeId) (z : Value) (size bytes : Nat) (ht : P.underlying t = some (.slice e)) (hinfo : (P.info? e).map (fun i => (i.zero, i.size, i.bytes)) = some (some z, size, bytes))
    (kl kc : IntKind) (n : Nat) (hl : a.eval l = .int kl (n : Int)) (hc : a.eval c = .int kc (n : Int)) (h63 : n ≤ 1073741824) (hb : bytes ≤ 4096)
    (h : ∀ w', Own w' e size (.slice (some ⟨w.heap.size, 0, none⟩) n n) n (madeCells z.cells (n * size)).toList → w.grownBy w' none → K (a.put N (.slice (some ⟨w.heap.size, 0, none⟩) n n)) w') :
    if Region.wanted oi (yielded ops a.tmps) = true then Oper.wp P oi a w K Q else K (a.put N undef) w := by
  obtain ⟨i, hi, hz, hsize, hby⟩ := info_parts hinfo
  have hbytes : i.bytes * n ≤ 281474976710656 := by
    have := Nat.mul_le_mul hb h63
    rw [hby]
    omega
  obtain ⟨w', hrun, r1, r2⟩ := run_make_full (P := P) w 0 t e i z size ht hi hz hsize kl kc n hbytes (by simp only [maxLen]; omega) (Nat.zero_le _)
  refine value_ (w1 := w') (v := .slice (some ⟨w.heap.size, 0, none⟩) n n) ?_ hN ?_ (h w' r1 r2)
  · unfold Region.wanted; rw [hg]
  · unfold execOp
    simp only [ho, hl, hc, Sem.run_bind, Result.andThen_ok, hrun]
    simp [hrun, Result.andThen]
end
theorem grown_drew {w w' : World} {r : Option Nat} (h : w.drew.grownBy w' r) : w.grownBy w' r := ⟨h.os, h.tape, h.output, h.size, h.block⟩
theorem cells_new (w : World) (cs : List Value) (t : TypeId) : ∀ j u, cs[j]? = some u → (w.alloc (.cells cs.toArray t)).cell? ((⟨w.heap.size, 0, none⟩ : Addr).add j) = some u := by
  intro j u hj
  have hb := Blk.new w cs.toArray t
  rw [show (⟨w.heap.size, 0, none⟩ : Addr).add j = ⟨w.heap.size, j, none⟩ by unfold Addr.add; split <;> simp_all, hb.cell]
  simpa using hj
end Go.Proofs.Ytjfenjnnpikkdaa
/- Package psim: with. -/
namespace Go.Proofs.Ytjfenjnnpikkdaa
set_option linter.unusedVariables false
set_option maxRecDepth 100000
set_option linter.unusedSimpArgs false
open Go.RowKit
open Go.Proofs.YtjfenjnnpikkdaaW.PrintLast

/-- What 'with' is told. -/
structure WithIn (w : World) (n vb be : Nat) (vL vl vr vg vt va x0 x1 x2 x3 x5 : Value) (V : Ver) (A : List Asked) (todo : List Nat) : Prop where
  blk : Blk w vb #[.int .i64 V.st.kind, vL, .bool V.st.isSealed, .int .i64 V.st.to, vl, vr, vg] 84
  rdL : Rd w vL V.st.L
  lenL : V.st.L.length ≤ 300
  ol : Own w 3 1 vl n (rangeI n fun q => (V.last q : Int))
  or : Own w 3 1 vr n (rangeI n V.resp)
  og : Own w 39 7 vg V.log.length (V.log.flatMap recV)
  len : V.log.length + todo.length ≤ 1073741824
  eng : Blk w be #[x0, x1, x2, x3, va, x5] 76
  asked : Own w 91 5 va A.length (A.flatMap askedV)
  tt : Own w 3 1 vt todo.length (ints (natI todo))
  lt : ∀ a ∈ todo, a < A.length ∧ (A.getD a noAsked).proc < n
  small : 0 < n ∧ n ≤ 64

theorem all_log_len {A : Nat → Asked} {l : List Nat} : ∀ {v : Ver}, (v.all A l).log.length = v.log.length + l.length := by
  induction l with
  | nil => intro v; rfl
  | cons b l ih =>
    intro v
    have := ih (v := v.one A b)
    unfold Ver.all at this ⊢
    rw [List.foldl_cons, this]
    unfold Ver.one
    simp; omega
theorem asked_len (l : List Asked) : (l.flatMap askedV).length = l.length * 5 := by
  induction l with
  | nil => rfl
  | cons r l ih => simp [List.flatMap_cons, askedV, ih]; omega
theorem asked_at : ∀ (l : List Asked) (a : Nat), a < l.length → (l.flatMap askedV)[a * 5]? = some (.int .i64 (l.getD a noAsked).proc) ∧ (l.flatMap askedV)[a * 5 + 1]? = some (.int .i64 (l.getD a noAsked).many) ∧
    (l.flatMap askedV)[a * 5 + 2]? = some (.int .i64 (l.getD a noAsked).op.code) ∧ (l.flatMap askedV)[a * 5 + 3]? = some (.int .i64 (l.getD a noAsked).op.a) ∧ (l.flatMap askedV)[a * 5 + 4]? = some (.int .i64 (l.getD a noAsked).op.b)
  | r :: l, 0, _ => by simp [List.flatMap_cons, askedV]
  | r :: l, a + 1, h => by
    have ih := asked_at l a (by simpa using h)
    have e : (r :: l).flatMap askedV = askedV r ++ l.flatMap askedV := by simp [List.flatMap_cons]
    have e2 : ∀ j, ((r :: l).flatMap askedV)[(a + 1) * 5 + j]? = (l.flatMap askedV)[a * 5 + j]? := fun j => by
      rw [e, List.getElem?_append_right (by simp [askedV]; omega)]
      congr 1
      simp [askedV]; omega
    have e3 : (r :: l).getD (a + 1) noAsked = l.getD a noAsked := by simp
    rw [e3]
    exact ⟨by rw [← ih.1]; exact e2 0, by rw [← ih.2.1]; exact e2 1, by rw [← ih.2.2.1]; exact e2 2, by rw [← ih.2.2.2.1]; exact e2 3, by rw [← ih.2.2.2.2]; exact e2 4⟩
/-- What the round reads of what came in. -/
theorem WithIn.view {w : World} {n vb be : Nat} {vL vl vr vg vt va x0 x1 x2 x3 x5 : Value} {V : Ver} {A : List Asked} {todo : List Nat} (h : WithIn w n vb be vL vl vr vg vt va x0 x1 x2 x3 x5 V A todo) {k : Nat} (hk : k < todo.length) :
    ∃ (gt ct ga ca a : Nat) (r : Asked), r = A.getD a noAsked ∧ a < A.length ∧ r.proc < n ∧ todo.take (k + 1) = todo.take k ++ [a] ∧ vt = .slice (some ⟨gt, 0, none⟩) todo.length ct ∧ va = .slice (some ⟨ga, 0, none⟩) A.length ca ∧ w.cell? ⟨gt, k, none⟩ = some (.int .i64 (a : Nat)) ∧ gt < w.heap.size ∧ ga < w.heap.size ∧
      (w.cell? ⟨ga, a * 5, none⟩ = some (.int .i64 r.proc) ∧ w.cell? ⟨ga, a * 5 + 1, none⟩ = some (.int .i64 r.many) ∧ w.cell? ⟨ga, a * 5 + 2, none⟩ = some (.int .i64 r.op.code) ∧
        w.cell? ⟨ga, a * 5 + 3, none⟩ = some (.int .i64 r.op.a) ∧ w.cell? ⟨ga, a * 5 + 4, none⟩ = some (.int .i64 r.op.b)) := by
  obtain ⟨gt, ct, rfl, _⟩ := own_open h.tt (by omega)
  have hm : todo.getD k 0 ∈ todo := by
    rw [List.getD_eq_getElem?_getD, List.getElem?_eq_getElem hk]; exact List.getElem_mem _
  have hl := h.lt _ hm
  obtain ⟨ga, ca, rfl, _⟩ := own_open h.asked (by omega)
  have hq := asked_at A (todo.getD k 0) hl.1
  have c := fun j (hj : j < 5) => World.ownsRow.cellAt h.asked (todo.getD k 0 * 5 + j) (by omega)
  refine ⟨gt, ct, ga, ca, todo.getD k 0, _, rfl, hl.1, hl.2, ?_, rfl, rfl, ?_, own_lt h.tt rfl, own_lt h.asked rfl, (c 0 (by omega)).trans hq.1, (c 1 (by omega)).trans hq.2.1, (c 2 (by omega)).trans hq.2.2.1, (c 3 (by omega)).trans hq.2.2.2.1, (c 4 (by omega)).trans hq.2.2.2.2⟩
  · rw [List.take_succ_eq_append_getElem hk]
    simp [List.getD_eq_getElem?_getD, List.getElem?_eq_getElem hk]
  · rw [World.ownsRow.cellAt h.tt k (by omega), ints_get _ _ (by simpa [natI] using hk)]
    simp [natI, List.getD_eq_getElem?_getD, List.getElem?_eq_getElem hk]

set_option maxRecDepth 100000 in
set_option maxHeartbeats 6400000 in
theorem ps_with {w : World} {n vb be : Nat} {vL vl vr vg vt va x0 x1 x2 x3 x5 : Value} {V : Ver} {A : List Asked} {todo : List Nat} (h : WithIn w n vb be vL vl vr vg vt va x0 x1 x2 x3 x5 V A todo) :
    Calls Try.prog 93 #[.pointer (some ⟨vb, 0, none⟩), .pointer (some ⟨be, 0, none⟩), vt] w (WithP w n vL (V.all (fun a => A.getD a noAsked) todo)) := by
  have s0 : w.cell? ⟨vb, 0, none⟩ = some (.int .i64 V.st.kind) := h.blk.cell 0
  have s1 : w.cell? ⟨vb, 1, none⟩ = some vL := h.blk.cell 1
  have s2 : w.cell? ⟨vb, 2, none⟩ = some (.bool V.st.isSealed) := h.blk.cell 2
  have s3 : w.cell? ⟨vb, 3, none⟩ = some (.int .i64 V.st.to) := h.blk.cell 3
  have s4 : w.cell? ⟨vb, 4, none⟩ = some vl := h.blk.cell 4
  have s5 : w.cell? ⟨vb, 5, none⟩ = some vr := h.blk.cell 5
  have s6 : w.cell? ⟨vb, 6, none⟩ = some vg := h.blk.cell 6
  obtain ⟨aL, cL, hvL, _⟩ := id h.rdL
  obtain ⟨al, cl, hvl⟩ := own_shape h.ol
  obtain ⟨ar, cr, hvr⟩ := own_shape h.or
  obtain ⟨ag, cg, hvg⟩ := own_shape h.og
  obtain ⟨at_, ct, hvt⟩ := own_shape h.tt
  subst hvL hvl hvr hvg hvt
  have hvb := h.blk.lt
  have H := Lib.hid h
  have hlog : V.log.length ≤ 1073741824 := by have := h.len; omega
  have hn64 := h.small
  have cl1 := fun (w' : World) (hb : Below w.heap.size w w') => Lib.hid (sl_clone (own_rd (own_keeps h.ol (Keeps.ofBelow (F := fun _ => False) hb) (by simp))) (by simp; omega))
  have cl2 := fun (w' : World) (hb : Below w.heap.size w w') => Lib.hid (sl_clone (own_rd (own_keeps h.or (Keeps.ofBelow (F := fun _ => False) hb) (by simp))) (by simp; omega))
  have cl3 := fun (w' : World) (hb : Below w.heap.size w w') => Lib.hid (sl_clone_rec (own_keeps h.og (Keeps.ofBelow (F := fun _ => False) hb) (by simp)) hlog)
  clear h
  go_enter Try.func93, Try.ntmps93
  go_wp2_with fail
  have B0 : Below w.heap.size w w.drew := (Below.refl _ _).drew
  refine start_ (n := 22) (S := fun w' => w'.cell? ⟨vb, 0, none⟩ = some (.int .i64 V.st.kind) ∧ w'.cell? ⟨vb, 1, none⟩ = some (.slice aL V.st.L.length cL) ∧ w'.cell? ⟨vb, 2, none⟩ = some (.bool V.st.isSealed) ∧ w'.cell? ⟨vb, 3, none⟩ = some (.int .i64 V.st.to) ∧ w'.cell? ⟨vb, 4, none⟩ = some (.slice al n cl) ∧ w'.cell? ⟨vb, 5, none⟩ = some (.slice ar n cr) ∧ w'.cell? ⟨vb, 6, none⟩ = some (.slice ag V.log.length cg)) (ds := []) #[false, false, false, false, false, false, false, false, false, false, false, false, false, false, false, false, false, false, false, false, false, false] (by kernel_rfl) rfl rfl ⟨s0, s1, s2, s3, s4, s5, s6⟩ (fun hHeld => ?_)
  refine pure_ (i := 0) (N := some 12) (v := ?_) (a' := ?_) #[true, false, false, false, false, false, false, false, false, false, false, false, false, false, false, false, false, false, false, false, false, false] rfl rfl (by kernel_rfl) (fun _ _ _ h => h) (Or.inl ⟨by rfl, ?_⟩) ?_ ?_
  rotate_left
  · intro w'
    go_simp
    with_reducible rfl
  rotate_left
  · simp only [Act.put, List.setIfInBounds_toArray, List.set_cons_zero, List.set_cons_succ, i64_w, i32_w]
    rfl
  refine pure_ (i := 1) (N := some 13) (v := ?_) (a' := ?_) #[true, true, false, false, false, false, false, false, false, false, false, false, false, false, false, false, false, false, false, false, false, false] rfl rfl (by kernel_rfl) (fun _ _ _ h => h) (Or.inl ⟨by rfl, ?_⟩) ?_ ?_
  rotate_left
  · intro w'
    go_simp
    with_reducible rfl
  rotate_left
  · simp only [Act.put, List.setIfInBounds_toArray, List.set_cons_zero, List.set_cons_succ, i64_w, i32_w]
    rfl
  refine pure_ (i := 2) (N := some 14) (v := ?_) (a' := ?_) #[true, true, true, false, false, false, false, false, false, false, false, false, false, false, false, false, false, false, false, false, false, false] rfl rfl (by kernel_rfl) (fun _ _ _ h => h) (Or.inl ⟨by rfl, ?_⟩) ?_ ?_
  rotate_left
  · intro w'
    go_simp
    with_reducible rfl
  rotate_left
  · simp only [Act.put, List.setIfInBounds_toArray, List.set_cons_zero, List.set_cons_succ, i64_w, i32_w]
    rfl
  refine pure_ (i := 4) (N := some 16) (v := ?_) (a' := ?_) #[true, true, true, false, true, false, false, false, false, false, false, false, false, false, false, false, false, false, false, false, false, false] rfl rfl (by kernel_rfl) (fun _ _ _ h => h) (Or.inl ⟨by rfl, ?_⟩) ?_ ?_
  rotate_left
  · intro w'
    go_simp
    with_reducible rfl
  rotate_left
  · simp only [Act.put, List.setIfInBounds_toArray, List.set_cons_zero, List.set_cons_succ, i64_w, i32_w]
    rfl
  refine pure_ (i := 5) (N := some 17) (v := ?_) (a' := ?_) #[true, true, true, false, true, true, false, false, false, false, false, false, false, false, false, false, false, false, false, false, false, false] rfl rfl (by kernel_rfl) (fun _ _ _ h => h) (Or.inl ⟨by rfl, ?_⟩) ?_ ?_
  rotate_left
  · intro w'
    go_simp
    with_reducible rfl
  rotate_left
  · simp only [Act.put, List.setIfInBounds_toArray, List.set_cons_zero, List.set_cons_succ, i64_w, i32_w]
    rfl
  refine pure_ (i := 6) (N := some 18) (v := ?_) (a' := ?_) #[true, true, true, false, true, true, true, false, false, false, false, false, false, false, false, false, false, false, false, false, false, false] rfl rfl (by kernel_rfl) (fun _ _ _ h => h) (Or.inl ⟨by rfl, ?_⟩) ?_ ?_
  rotate_left
  · intro w'
    go_simp
    with_reducible rfl
  rotate_left
  · simp only [Act.put, List.setIfInBounds_toArray, List.set_cons_zero, List.set_cons_succ, i64_w, i32_w]
    rfl
  refine pure_ (i := 9) (N := some 21) (v := ?_) (a' := ?_) #[true, true, true, false, true, true, true, false, false, true, false, false, false, false, false, false, false, false, false, false, false, false] rfl rfl (by kernel_rfl) (fun _ _ _ h => h) (Or.inl ⟨by rfl, ?_⟩) ?_ ?_
  rotate_left
  · intro w'
    go_simp
    with_reducible rfl
  rotate_left
  · simp only [Act.put, List.setIfInBounds_toArray, List.set_cons_zero, List.set_cons_succ, i64_w, i32_w]
    rfl
  refine pure_ (i := 10) (N := some 22) (v := ?_) (a' := ?_) #[true, true, true, false, true, true, true, false, false, true, true, false, false, false, false, false, false, false, false, false, false, false] rfl rfl (by kernel_rfl) (fun _ _ _ h => h) (Or.inl ⟨by rfl, ?_⟩) ?_ ?_
  rotate_left
  · intro w'
    go_simp
    with_reducible rfl
  rotate_left
  · simp only [Act.put, List.setIfInBounds_toArray, List.set_cons_zero, List.set_cons_succ, i64_w, i32_w]
    rfl
  refine pure_ (i := 11) (N := some 23) (v := ?_) (a' := ?_) #[true, true, true, false, true, true, true, false, false, true, true, true, false, false, false, false, false, false, false, false, false, false] rfl rfl (by kernel_rfl) (fun _ _ _ h => h) (Or.inl ⟨by rfl, ?_⟩) ?_ ?_
  rotate_left
  · intro w'
    go_simp
    with_reducible rfl
  rotate_left
  · simp only [Act.put, List.setIfInBounds_toArray, List.set_cons_zero, List.set_cons_succ, i64_w, i32_w]
    rfl
  refine pure_ (i := 14) (N := some 26) (v := ?_) (a' := ?_) #[true, true, true, false, true, true, true, false, false, true, true, true, false, false, true, false, false, false, false, false, false, false] rfl rfl (by kernel_rfl) (fun _ _ _ h => h) (Or.inl ⟨by rfl, ?_⟩) ?_ ?_
  rotate_left
  · intro w'
    go_simp
    with_reducible rfl
  rotate_left
  · simp only [Act.put, List.setIfInBounds_toArray, List.set_cons_zero, List.set_cons_succ, i64_w, i32_w]
    rfl
  refine pure_ (i := 15) (N := some 27) (v := ?_) (a' := ?_) #[true, true, true, false, true, true, true, false, false, true, true, true, false, false, true, true, false, false, false, false, false, false] rfl rfl (by kernel_rfl) (fun _ _ _ h => h) (Or.inl ⟨by rfl, ?_⟩) ?_ ?_
  rotate_left
  · intro w'
    go_simp
    with_reducible rfl
  rotate_left
  · simp only [Act.put, List.setIfInBounds_toArray, List.set_cons_zero, List.set_cons_succ, i64_w, i32_w]
    rfl
  refine pure_ (i := 16) (N := some 28) (v := ?_) (a' := ?_) #[true, true, true, false, true, true, true, false, false, true, true, true, false, false, true, true, true, false, false, false, false, false] rfl rfl (by kernel_rfl) (fun _ _ _ h => h) (Or.inl ⟨by rfl, ?_⟩) ?_ ?_
  rotate_left
  · intro w'
    go_simp
    with_reducible rfl
  rotate_left
  · simp only [Act.put, List.setIfInBounds_toArray, List.set_cons_zero, List.set_cons_succ, i64_w, i32_w]
    rfl
  refine take_ (i := 3) (N := some 15) (v := ?_) (a' := ?_) #[true, true, true, true, true, true, true, false, false, true, true, true, false, false, true, true, true, false, false, false, false, false] rfl rfl (by kernel_rfl) (fun _ _ _ h => h) (Or.inl ⟨by rfl, ?_⟩) hHeld ?_ ?_
  rotate_left
  · rintro w' ⟨s0, s1, s2, s3, s4, s5, s6⟩
    go_simp
    with_reducible rfl
  rotate_left
  · simp only [Act.put, List.setIfInBounds_toArray, List.set_cons_zero, List.set_cons_succ, i64_w, i32_w]
    rfl
  refine take_ (i := 7) (N := some 19) (v := ?_) (a' := ?_) #[true, true, true, true, true, true, true, true, false, true, true, true, false, false, true, true, true, false, false, false, false, false] rfl rfl (by kernel_rfl) (fun _ _ _ h => h) (Or.inl ⟨by rfl, ?_⟩) hHeld ?_ ?_
  rotate_left
  · rintro w' ⟨s0, s1, s2, s3, s4, s5, s6⟩
    go_simp
    with_reducible rfl
  rotate_left
  · simp only [Act.put, List.setIfInBounds_toArray, List.set_cons_zero, List.set_cons_succ, i64_w, i32_w]
    rfl
  refine take_ (i := 12) (N := some 24) (v := ?_) (a' := ?_) #[true, true, true, true, true, true, true, true, false, true, true, true, true, false, true, true, true, false, false, false, false, false] rfl rfl (by kernel_rfl) (fun _ _ _ h => h) (Or.inl ⟨by rfl, ?_⟩) hHeld ?_ ?_
  rotate_left
  · rintro w' ⟨s0, s1, s2, s3, s4, s5, s6⟩
    go_simp
    with_reducible rfl
  rotate_left
  · simp only [Act.put, List.setIfInBounds_toArray, List.set_cons_zero, List.set_cons_succ, i64_w, i32_w]
    rfl
  refine take_ (i := 17) (N := some 29) (v := ?_) (a' := ?_) #[true, true, true, true, true, true, true, true, false, true, true, true, true, false, true, true, true, true, false, false, false, false] rfl rfl (by kernel_rfl) (fun _ _ _ h => h) (Or.inl ⟨by rfl, ?_⟩) hHeld ?_ ?_
  rotate_left
  · rintro w' ⟨s0, s1, s2, s3, s4, s5, s6⟩
    go_simp
    with_reducible rfl
  rotate_left
  · simp only [Act.put, List.setIfInBounds_toArray, List.set_cons_zero, List.set_cons_succ, i64_w, i32_w]
    rfl
  refine one_ (i := 8) (N := some 20) #[true, true, true, true, true, true, true, true, true, true, true, true, true, false, true, true, true, true, false, false, false, false] rfl rfl (by kernel_rfl) (by decide) (fun K hK => ?_)
  refine goes_ Try.func47 (by kernel_rfl) rfl #[.slice al n cl] (by rfl) rfl rfl (by simp only [List.map_toArray, List.map_cons, List.map_nil]; rfl) ?_
  with_reducible refine ((cl1 _ B0).out).mono ?_
  rintro e w3 ⟨vl3, rfl, ol3, fl3, bl3⟩
  refine ⟨_, rfl, ?_⟩
  simp only [List.length_map, List.length_range] at ol3
  obtain ⟨al3, cl3_, rfl⟩ := own_shape ol3
  have B3 : Below w.heap.size w w3 := B0.trans bl3
  clear bl3
  try clear hHeld
  refine hK.out _ _ ⟨(World.cell?_of_block (w := w) (a := ⟨vb, 0, none⟩) (B3.block vb hvb)).trans s0, (World.cell?_of_block (w := w) (a := ⟨vb, 1, none⟩) (B3.block vb hvb)).trans s1, (World.cell?_of_block (w := w) (a := ⟨vb, 2, none⟩) (B3.block vb hvb)).trans s2, (World.cell?_of_block (w := w) (a := ⟨vb, 3, none⟩) (B3.block vb hvb)).trans s3, (World.cell?_of_block (w := w) (a := ⟨vb, 4, none⟩) (B3.block vb hvb)).trans s4, (World.cell?_of_block (w := w) (a := ⟨vb, 5, none⟩) (B3.block vb hvb)).trans s5, (World.cell?_of_block (w := w) (a := ⟨vb, 6, none⟩) (B3.block vb hvb)).trans s6⟩ (fun hHeld => ?_)
  clear hK K
  refine norm_ (a' := ?_) ?_ ?_
  rotate_left
  · show Act.put _ (some 20) _ = _
    simp only [Act.put, List.setIfInBounds_toArray, List.set_cons_zero, List.set_cons_succ, i64_w, i32_w]
    rfl
  refine one_ (i := 13) (N := some 25) #[true, true, true, true, true, true, true, true, true, true, true, true, true, true, true, true, true, true, false, false, false, false] rfl rfl (by kernel_rfl) (by decide) (fun K hK => ?_)
  refine goes_ Try.func47 (by kernel_rfl) rfl #[.slice ar n cr] (by rfl) rfl rfl (by simp only [List.map_toArray, List.map_cons, List.map_nil]; rfl) ?_
  with_reducible refine ((cl2 _ B3).out).mono ?_
  rintro e w4 ⟨vr4, rfl, or4, fr4, bl4⟩
  refine ⟨_, rfl, ?_⟩
  simp only [List.length_map, List.length_range] at or4
  obtain ⟨ar4, cr4_, rfl⟩ := own_shape or4
  have B4 : Below w.heap.size w w4 := B3.trans (bl4.mono B3.size)
  try clear hHeld
  refine hK.out _ _ ⟨(World.cell?_of_block (w := w) (a := ⟨vb, 0, none⟩) (B4.block vb hvb)).trans s0, (World.cell?_of_block (w := w) (a := ⟨vb, 1, none⟩) (B4.block vb hvb)).trans s1, (World.cell?_of_block (w := w) (a := ⟨vb, 2, none⟩) (B4.block vb hvb)).trans s2, (World.cell?_of_block (w := w) (a := ⟨vb, 3, none⟩) (B4.block vb hvb)).trans s3, (World.cell?_of_block (w := w) (a := ⟨vb, 4, none⟩) (B4.block vb hvb)).trans s4, (World.cell?_of_block (w := w) (a := ⟨vb, 5, none⟩) (B4.block vb hvb)).trans s5, (World.cell?_of_block (w := w) (a := ⟨vb, 6, none⟩) (B4.block vb hvb)).trans s6⟩ (fun hHeld => ?_)
  clear hK K
  refine norm_ (a' := ?_) ?_ ?_
  rotate_left
  · show Act.put _ (some 25) _ = _
    simp only [Act.put, List.setIfInBounds_toArray, List.set_cons_zero, List.set_cons_succ, i64_w, i32_w]
    rfl
  refine one_ (i := 18) (N := some 30) #[true, true, true, true, true, true, true, true, true, true, true, true, true, true, true, true, true, true, true, false, false, false] rfl rfl (by kernel_rfl) (by decide) (fun K hK => ?_)
  refine goes_ Try.func40 (by kernel_rfl) rfl #[.slice ag V.log.length cg] (by rfl) rfl rfl (by simp only [List.map_toArray, List.map_cons, List.map_nil]; rfl) ?_
  with_reducible refine ((cl3 _ B4).out).mono ?_
  rintro e w5 ⟨vg5, rfl, og5, fg5, bl5⟩
  refine ⟨_, rfl, ?_⟩
  obtain ⟨ag5, cg5_, rfl⟩ := own_shape og5
  have B5 : Below w.heap.size w w5 := B4.trans (bl5.mono B4.size)
  try clear hHeld
  refine hK.out _ _ ⟨(World.cell?_of_block (w := w) (a := ⟨vb, 0, none⟩) (B5.block vb hvb)).trans s0, (World.cell?_of_block (w := w) (a := ⟨vb, 1, none⟩) (B5.block vb hvb)).trans s1, (World.cell?_of_block (w := w) (a := ⟨vb, 2, none⟩) (B5.block vb hvb)).trans s2, (World.cell?_of_block (w := w) (a := ⟨vb, 3, none⟩) (B5.block vb hvb)).trans s3, (World.cell?_of_block (w := w) (a := ⟨vb, 4, none⟩) (B5.block vb hvb)).trans s4, (World.cell?_of_block (w := w) (a := ⟨vb, 5, none⟩) (B5.block vb hvb)).trans s5, (World.cell?_of_block (w := w) (a := ⟨vb, 6, none⟩) (B5.block vb hvb)).trans s6⟩ (fun hHeld => ?_)
  clear hK K
  refine norm_ (a' := ?_) ?_ ?_
  rotate_left
  · show Act.put _ (some 30) _ = _
    simp only [Act.put, List.setIfInBounds_toArray, List.set_cons_zero, List.set_cons_succ, i64_w, i32_w]
    rfl
  refine pure_ (i := 19) (N := some 31) (v := ?_) (a' := ?_) #[true, true, true, true, true, true, true, true, true, true, true, true, true, true, true, true, true, true, true, true, false, false] rfl rfl (by kernel_rfl) (fun _ _ _ h => h) (Or.inl ⟨by rfl, ?_⟩) ?_ ?_
  rotate_left
  · intro w'
    go_simp
    with_reducible rfl
  rotate_left
  · simp only [Act.put, List.setIfInBounds_toArray, List.set_cons_zero, List.set_cons_succ, i64_w, i32_w]
    rfl
  refine one_ (i := 20) (N := some 32) #[true, true, true, true, true, true, true, true, true, true, true, true, true, true, true, true, true, true, true, true, true, false] rfl rfl (by kernel_rfl) (by decide) (fun K hK => ?_)
  refine value_ (w1 := ?_) (v := ?_) (by rfl) rfl ?_ ?_
  rotate_left 2
  · go_simp
    constructor
    · rfl
    · rfl
  have B6 := B5.alloc B5.size (.cells #[.int .i64 V.st.kind, .slice aL V.st.L.length cL, .bool V.st.isSealed, .int .i64 V.st.to, .slice al3 n cl3_, .slice ar4 n cr4_, .slice ag5 V.log.length cg5_] 84)
  try clear hHeld
  refine hK.out _ _ ⟨(World.cell?_of_block (w := w) (a := ⟨vb, 0, none⟩) (B6.block vb hvb)).trans s0, (World.cell?_of_block (w := w) (a := ⟨vb, 1, none⟩) (B6.block vb hvb)).trans s1, (World.cell?_of_block (w := w) (a := ⟨vb, 2, none⟩) (B6.block vb hvb)).trans s2, (World.cell?_of_block (w := w) (a := ⟨vb, 3, none⟩) (B6.block vb hvb)).trans s3, (World.cell?_of_block (w := w) (a := ⟨vb, 4, none⟩) (B6.block vb hvb)).trans s4, (World.cell?_of_block (w := w) (a := ⟨vb, 5, none⟩) (B6.block vb hvb)).trans s5, (World.cell?_of_block (w := w) (a := ⟨vb, 6, none⟩) (B6.block vb hvb)).trans s6⟩ (fun hHeld => ?_)
  clear hK K
  refine norm_ (a' := ?_) ?_ ?_
  rotate_left
  · show Act.put _ (some 32) _ = _
    simp only [Act.put, List.setIfInBounds_toArray, List.set_cons_zero, List.set_cons_succ, i64_w, i32_w]
    rfl
  refine pure_ (i := 21) (N := some 7) (v := ?_) (a' := ?_) #[true, true, true, true, true, true, true, true, true, true, true, true, true, true, true, true, true, true, true, true, true, true] rfl rfl (by kernel_rfl) (fun _ _ _ h => h) (Or.inl ⟨by rfl, ?_⟩) ?_ ?_
  rotate_left
  · intro w'
    go_simp
    with_reducible rfl
  rotate_left
  · simp only [Act.put, List.setIfInBounds_toArray, List.set_cons_zero, List.set_cons_succ, i64_w, i32_w]
    rfl
  try clear hHeld
  refine done_ (by kernel_rfl) ?_
  go_wp2_with fail
  have M0 : VMid w (w5.alloc (.cells #[.int .i64 V.st.kind, .slice aL V.st.L.length cL, .bool V.st.isSealed, .int .i64 V.st.to, .slice al3 n cl3_, .slice ar4 n cr4_, .slice ag5 V.log.length cg5_] 84)) n w5.heap.size (.slice aL V.st.L.length cL) (.slice aL V.st.L.length cL) (.slice al3 n cl3_) (.slice ar4 n cr4_) (.slice ag5 V.log.length cg5_) V := by
    have h := H.out
    have k34 := Keeps.ofBelow (F := fun _ => False) bl4
    have k45 := Keeps.ofBelow (F := fun _ => False) bl5
    have hl0 := fun h0 => rd_block h.rdL h0
    have s3 := B3.size
    have s4 := B4.size
    refine ⟨B6, B5.size, Blk.new _ _ _, h.rdL.below B6 (Nat.le_refl _), h.lenL, .inl rfl, (fun a m c e h0 => by injection e with _ e2 _; subst e2; exact hl0 h0), (own_keeps (own_keeps ol3 k34 (by simp)) k45 (by simp)).alloc _, fl3, (own_keeps or4 k45 (by simp)).alloc _, fun k hk => Nat.le_trans s3 (fr4 k hk), og5.alloc _, fun k hk => Nat.le_trans s4 (fg5 k hk), ?_, ?_, ?_⟩
    · intro k hk e; have := own_lt ol3 hk; have := fr4 k e; omega
    · intro h0 k hk e; have := hl0 h0 k e; have := fl3 k hk; have : w.drew.heap.size = w.heap.size := rfl; omega
    · intro h0 k hk e; have := hl0 h0 k e; have := fr4 k hk; omega
  clear B0 B3 B4 B5 B6 bl4 bl5 ol3 or4 og5 fl3 fr4 fg5 cl1 cl2 cl3 s0 s1 s2 s3 s4 s5 s6
  generalize w5.alloc (.cells #[.int .i64 V.st.kind, .slice aL V.st.L.length cL, .bool V.st.isSealed, .int .i64 V.st.to, .slice al3 n cl3_, .slice ar4 n cr4_, .slice ag5 V.log.length cg5_] 84) = w6 at *
  generalize w5.heap.size = b at *
  have hlen : todo.length ≤ 1073741824 := by have := H.out.len; omega
  go_wp2_with fail
  go_loopw [35] (fun i wr => ∃ (k : Nat) (wL wl wrr wg : Value), k ≤ todo.length ∧ i = .int .i64 k ∧ VMid w wr n b (.slice aL V.st.L.length cL) wL wl wrr wg (V.all (fun a => A.getD a noAsked) (todo.take k))) (fun i _ => todo.length - (intOf i).toNat)
  case atStart => exact ⟨0, _, _, _, _, Nat.zero_le _, rfl, M0⟩
  case round =>
    obtain ⟨k, wL, wl, wrr, wg, hk, rfl, hM⟩ := hrel
    clear M0
    obtain ⟨V', hV'⟩ : ∃ V', V' = V.all (fun a => A.getD a noAsked) (todo.take k) := ⟨_, rfl⟩
    rw [← hV'] at hM
    by_cases hlt : k < todo.length
    · obtain ⟨gt, ct', ga, ca, a, r, hr, hal, hap, htk, evt, eva, t0, tl, al, a0, a1, a2, a3, a4⟩ := H.out.view hlt
      injection evt with evt1 evt2 evt3
      subst evt1 evt3
      have hb0 := hM.bel
      have r0 : wr.cell? ⟨gt, k, none⟩ = some (.int .i64 (a : Nat)) := (hb0.cell (p := ⟨gt, k, none⟩) tl).trans t0
      have g0 : wr.cell? ⟨ga, a * 5, none⟩ = some (.int .i64 r.proc) := (hb0.cell (p := ⟨ga, a * 5, none⟩) al).trans a0
      have g1 : wr.cell? ⟨ga, a * 5 + 1, none⟩ = some (.int .i64 r.many) := (hb0.cell (p := ⟨ga, a * 5 + 1, none⟩) al).trans a1
      have g2 : wr.cell? ⟨ga, a * 5 + 2, none⟩ = some (.int .i64 r.op.code) := (hb0.cell (p := ⟨ga, a * 5 + 2, none⟩) al).trans a2
      have g3 : wr.cell? ⟨ga, a * 5 + 3, none⟩ = some (.int .i64 r.op.a) := (hb0.cell (p := ⟨ga, a * 5 + 3, none⟩) al).trans a3
      have g4 : wr.cell? ⟨ga, a * 5 + 4, none⟩ = some (.int .i64 r.op.b) := (hb0.cell (p := ⟨ga, a * 5 + 4, none⟩) al).trans a4
      have e4 : wr.cell? ⟨be, 4, none⟩ = some va := (hb0.cell (p := ⟨be, 4, none⟩) H.out.eng.lt).trans (H.out.eng.cell 4)
      rw [eva] at e4
      have hV1 : V.all (fun a => A.getD a noAsked) (todo.take (k + 1)) = V'.one (fun a => A.getD a noAsked) a := by rw [htk, hV']; simp [Ver.all]
      have HV := Lib.hid hV1
      have HR := Lib.hid hr
      have i1 : (0 : Int) ≤ (a : Int) := by omega
      have i2 : (a : Int) < (A.length : Int) := by omega
      have hlg : V'.log.length ≤ 1073741823 := by
        have h1 := H.out.len
        have h2 : V'.log.length = V.log.length + (todo.take k).length := by rw [hV']; exact all_log_len
        rw [List.length_take] at h2
        omega
      obtain ⟨aw, cw, evw, _⟩ := id hM.rdL
      obtain ⟨gl, cl', evl, _⟩ := own_open hM.ol (by omega)
      obtain ⟨gr, cr', evr, _⟩ := own_open hM.or (by omega)
      obtain ⟨ag', cg', evg⟩ := own_shape hM.og
      subst evw evl evr evg
      have HM := Lib.hid hM
      clear hM hr htk eva t0 a0 a1 a2 a3 a4 hb0 hV' hV1
      go_wp2_with fail
      have hO1 := Blk.new wr #[.int .i64 r.proc, .int .i64 r.many, .int .i64 r.op.code, .int .i64 r.op.a, .int .i64 r.op.b] 91
      have hM1 := HM.out.below ((Below.refl _ _).alloc (Nat.le_refl _) (.cells #[.int .i64 r.proc, .int .i64 r.many, .int .i64 r.op.code, .int .i64 r.op.a, .int .i64 r.op.b] 91))
      have hbo : b < wr.heap.size := HM.out.blk.lt
      have hgl : gl < wr.heap.size := own_lt HM.out.ol rfl
      have hgr : gr < wr.heap.size := own_lt HM.out.or rfl
      clear HM r0 g0 g1 g2 g3 g4 e4
      generalize wr.alloc (.cells #[.int .i64 r.proc, .int .i64 r.many, .int .i64 r.op.code, .int .i64 r.op.a, .int .i64 r.op.b] 91) = w1 at *
      generalize wr.heap.size = bo at *
      have l6 : w1.cell? ⟨b, 6, none⟩ = some (.slice ag' V'.log.length cg') := hM1.blk.cell 6
      have o0 : w1.cell? ⟨bo, 0, none⟩ = some (.int .i64 r.proc) := hO1.cell 0
      have o1 : w1.cell? ⟨bo, 1, none⟩ = some (.int .i64 r.many) := hO1.cell 1
      have o2 : w1.cell? ⟨bo, 2, none⟩ = some (.int .i64 r.op.code) := hO1.cell 2
      have o3 : w1.cell? ⟨bo, 3, none⟩ = some (.int .i64 r.op.a) := hO1.cell 3
      have o4 : w1.cell? ⟨bo, 4, none⟩ = some (.int .i64 r.op.b) := hO1.cell 4
      refine start_ (n := 14) (S := fun w' => w'.cell? ⟨b, 6, none⟩ = some (.slice ag' V'.log.length cg') ∧ w'.cell? ⟨bo, 0, none⟩ = some (.int .i64 r.proc) ∧ w'.cell? ⟨bo, 1, none⟩ = some (.int .i64 r.many) ∧ w'.cell? ⟨bo, 2, none⟩ = some (.int .i64 r.op.code) ∧ w'.cell? ⟨bo, 3, none⟩ = some (.int .i64 r.op.a) ∧ w'.cell? ⟨bo, 4, none⟩ = some (.int .i64 r.op.b)) (ds := [13]) #[false, false, false, false, false, false, false, false, false, false, false, false, false, false] (by kernel_rfl) rfl rfl ⟨l6, o0, o1, o2, o3, o4⟩ (fun hHeld => ?_)
      refine pure_ (i := 0) (N := some 46) (v := ?_) (a' := ?_) #[true, false, false, false, false, false, false, false, false, false, false, false, false, false] rfl rfl (by kernel_rfl) (fun _ _ _ h => h) (Or.inl ⟨by rfl, ?_⟩) ?_ ?_
      rotate_left
      · intro w'
        go_simp
        with_reducible rfl
      rotate_left
      · simp only [Act.put, List.setIfInBounds_toArray, List.set_cons_zero, List.set_cons_succ, i64_w, i32_w]
        rfl
      refine pure_ (i := 1) (N := some 47) (v := ?_) (a' := ?_) #[true, true, false, false, false, false, false, false, false, false, false, false, false, false] rfl rfl (by kernel_rfl) (fun _ _ _ h => h) (Or.inl ⟨by rfl, ?_⟩) ?_ ?_
      rotate_left
      · intro w'
        go_simp
        with_reducible rfl
      rotate_left
      · simp only [Act.put, List.setIfInBounds_toArray, List.set_cons_zero, List.set_cons_succ, i64_w, i32_w]
        rfl
      refine pure_ (i := 2) (N := some 48) (v := ?_) (a' := ?_) #[true, true, true, false, false, false, false, false, false, false, false, false, false, false] rfl rfl (by kernel_rfl) (fun _ _ _ h => h) (Or.inl ⟨by rfl, ?_⟩) ?_ ?_
      rotate_left
      · intro w'
        go_simp
        with_reducible rfl
      rotate_left
      · simp only [Act.put, List.setIfInBounds_toArray, List.set_cons_zero, List.set_cons_succ, i64_w, i32_w]
        rfl
      refine pure_ (i := 5) (N := some 51) (v := ?_) (a' := ?_) #[true, true, true, false, false, true, false, false, false, false, false, false, false, false] rfl rfl (by kernel_rfl) (fun _ _ _ h => h) (Or.inl ⟨by rfl, ?_⟩) ?_ ?_
      rotate_left
      · intro w'
        go_simp
        with_reducible rfl
      rotate_left
      · simp only [Act.put, List.setIfInBounds_toArray, List.set_cons_zero, List.set_cons_succ, i64_w, i32_w]
        rfl
      refine pure_ (i := 7) (N := some 53) (v := ?_) (a' := ?_) #[true, true, true, false, false, true, false, true, false, false, false, false, false, false] rfl rfl (by kernel_rfl) (fun _ _ _ h => h) (Or.inl ⟨by rfl, ?_⟩) ?_ ?_
      rotate_left
      · intro w'
        go_simp
        with_reducible rfl
      rotate_left
      · simp only [Act.put, List.setIfInBounds_toArray, List.set_cons_zero, List.set_cons_succ, i64_w, i32_w]
        rfl
      refine pure_ (i := 9) (N := some 55) (v := ?_) (a' := ?_) #[true, true, true, false, false, true, false, true, false, true, false, false, false, false] rfl rfl (by kernel_rfl) (fun _ _ _ h => h) (Or.inl ⟨by rfl, ?_⟩) ?_ ?_
      rotate_left
      · intro w'
        go_simp
        with_reducible rfl
      rotate_left
      · simp only [Act.put, List.setIfInBounds_toArray, List.set_cons_zero, List.set_cons_succ, i64_w, i32_w]
        rfl
      refine take_ (i := 3) (N := some 49) (v := ?_) (a' := ?_) #[true, true, true, true, false, true, false, true, false, true, false, false, false, false] rfl rfl (by kernel_rfl) (fun _ _ _ h => h) (Or.inl ⟨by rfl, ?_⟩) hHeld ?_ ?_
      rotate_left
      · rintro w' ⟨s0, s1, s2, s3, s4, s5⟩
        go_simp
        with_reducible rfl
      rotate_left
      · simp only [Act.put, List.setIfInBounds_toArray, List.set_cons_zero, List.set_cons_succ, i64_w, i32_w]
        rfl
      refine pure_ (i := 4) (N := some 50) (v := ?_) (a' := ?_) #[true, true, true, true, true, true, false, true, false, true, false, false, false, false] rfl rfl (by kernel_rfl) (fun _ _ _ h => h) (Or.inl ⟨by rfl, ?_⟩) ?_ ?_
      rotate_left
      · intro w'
        go_simp
        with_reducible rfl
      rotate_left
      · simp only [Act.put, List.setIfInBounds_toArray, List.set_cons_zero, List.set_cons_succ, i64_w, i32_w]
        rfl
      refine take_ (i := 6) (N := some 52) (v := ?_) (a' := ?_) #[true, true, true, true, true, true, true, true, false, true, false, false, false, false] rfl rfl (by kernel_rfl) (fun _ _ _ h => h) (Or.inl ⟨by rfl, ?_⟩) hHeld ?_ ?_
      rotate_left
      · rintro w' ⟨s0, s1, s2, s3, s4, s5⟩
        go_simp
        with_reducible rfl
      rotate_left
      · simp only [Act.put, List.setIfInBounds_toArray, List.set_cons_zero, List.set_cons_succ, i64_w, i32_w]
        rfl
      refine take_ (i := 8) (N := some 54) (v := ?_) (a' := ?_) #[true, true, true, true, true, true, true, true, true, true, false, false, false, false] rfl rfl (by kernel_rfl) (fun _ _ _ h => h) (Or.inl ⟨by rfl, ?_⟩) hHeld ?_ ?_
      rotate_left
      · rintro w' ⟨s0, s1, s2, s3, s4, s5⟩
        go_simp
        with_reducible rfl
      rotate_left
      · simp only [Act.put, List.setIfInBounds_toArray, List.set_cons_zero, List.set_cons_succ, i64_w, i32_w]
        rfl
      refine take_ (i := 10) (N := some 56) (v := ?_) (a' := ?_) #[true, true, true, true, true, true, true, true, true, true, true, false, false, false] rfl rfl (by kernel_rfl) (fun _ _ _ h => h) (Or.inl ⟨by rfl, ?_⟩) hHeld ?_ ?_
      rotate_left
      · rintro w' ⟨s0, s1, s2, s3, s4, s5⟩
        go_simp
        with_reducible rfl
      rotate_left
      · simp only [Act.put, List.setIfInBounds_toArray, List.set_cons_zero, List.set_cons_succ, i64_w, i32_w]
        rfl
      refine pure_ (i := 11) (N := some 57) (v := ?_) (a' := ?_) #[true, true, true, true, true, true, true, true, true, true, true, true, false, false] rfl rfl (by kernel_rfl) (fun _ _ _ h => h) (Or.inl ⟨by rfl, ?_⟩) ?_ ?_
      rotate_left
      · intro w'
        go_simp
        with_reducible rfl
      rotate_left
      · simp only [Act.put, List.setIfInBounds_toArray, List.set_cons_zero, List.set_cons_succ, i64_w, i32_w]
        rfl
      refine one_ (i := 12) (N := some 11) #[true, true, true, true, true, true, true, true, true, true, true, true, true, false] rfl rfl (by kernel_rfl) (by decide) (fun K hK => ?_)
      refine value_ (w1 := ?_) (v := ?_) (by rfl) rfl ?_ ?_
      rotate_left 2
      · go_simp
        constructor
        · rfl
        · rfl
      try clear hHeld
      refine hK.out _ _ ⟨Lib.cell?_alloc_some _ l6, Lib.cell?_alloc_some _ o0, Lib.cell?_alloc_some _ o1, Lib.cell?_alloc_some _ o2, Lib.cell?_alloc_some _ o3, Lib.cell?_alloc_some _ o4⟩ (fun hHeld => ?_)
      clear hK K
      refine norm_ (a' := ?_) ?_ ?_
      rotate_left
      · show Act.put _ (some 11) _ = _
        simp only [Act.put, List.setIfInBounds_toArray, List.set_cons_zero, List.set_cons_succ, i64_w, i32_w]
        rfl
      refine last_ (i := 13) (N := none) #[true, true, true, true, true, true, true, true, true, true, true, true, true, true] rfl rfl (by kernel_rfl) (by decide) (fun K hK => ?_)
      refine skip_ (w1 := ?_) (by rfl) rfl ?_ ?_
      rotate_left
      · go_simp
        rfl
      try clear hHeld
      refine hK.out _ _ ?_
      clear hK K
      try clear hHeld
      refine done_ (by kernel_rfl) ?_
      go_wp2_with fail
      have hR2 := (Blk.new w1 #[.int .i64 V'.log.length, .int .i64 r.proc, .int .i64 r.many, .int .i64 r.op.code, .int .i64 r.op.a, .int .i64 r.op.b, .int .i64 0] 39).drew
      have hO2 := (hO1.alloc (.cells #[.int .i64 V'.log.length, .int .i64 r.proc, .int .i64 r.many, .int .i64 r.op.code, .int .i64 r.op.a, .int .i64 r.op.b, .int .i64 0] 39)).drew
      have hM2 := hM1.below (((Below.refl _ _).alloc (Nat.le_refl _) (.cells #[.int .i64 V'.log.length, .int .i64 r.proc, .int .i64 r.many, .int .i64 r.op.code, .int .i64 r.op.a, .int .i64 r.op.b, .int .i64 0] 39)).drew)
      have hgbr : (Value.slice ag' V'.log.length cg').ownBlock ≠ some w1.heap.size := fun e => by have := own_lt hM1.og e; omega
      have hwbr : w.heap.size ≤ w1.heap.size := hM1.bel.size
      have hbbr : b < w1.heap.size := hM1.blk.lt
      have hobr : bo < w1.heap.size := hO1.lt
      clear hM1 hO1 l6 o0 o1 o2 o3 o4
      generalize (w1.alloc (.cells #[.int .i64 V'.log.length, .int .i64 r.proc, .int .i64 r.many, .int .i64 r.op.code, .int .i64 r.op.a, .int .i64 r.op.b, .int .i64 0] 39)).drew = w2 at *
      generalize w1.heap.size = br at *
      have hst := fun W hx => o_step (w := W) (vl := .slice aw V'.st.L.length cw) V'.st r.op hx (by have := hM2.lenL; omega)
      have hl300 := step_len r.op hM2.lenL
      obtain ⟨q, hq⟩ : ∃ q, q = stepS V'.st r.op := ⟨_, rfl⟩
      simp only [← hq] at hst
      rw [← hq] at hl300
      have hrd := hM2.rdL
      have m0 : w2.cell? ⟨b, 0, none⟩ = some (.int .i64 V'.st.kind) := hM2.blk.cell 0
      have m1 : w2.cell? ⟨b, 1, none⟩ = some (.slice aw V'.st.L.length cw) := hM2.blk.cell 1
      have m2 : w2.cell? ⟨b, 2, none⟩ = some (.bool V'.st.isSealed) := hM2.blk.cell 2
      have m3 : w2.cell? ⟨b, 3, none⟩ = some (.int .i64 V'.st.to) := hM2.blk.cell 3
      have o2 : w2.cell? ⟨bo, 2, none⟩ = some (.int .i64 r.op.code) := hO2.cell 2
      have o3 : w2.cell? ⟨bo, 3, none⟩ = some (.int .i64 r.op.a) := hO2.cell 3
      have o4 : w2.cell? ⟨bo, 4, none⟩ = some (.int .i64 r.op.b) := hO2.cell 4
      have hlb : b < w2.drew.heap.size := hM2.blk.lt
      have hlo : bo < w2.drew.heap.size := hO2.lt
      have hlr : br < w2.drew.heap.size := hR2.lt
      have nbr : b ≠ br := by omega
      have nrb : br ≠ b := by omega
      have nbo : b ≠ bo := by omega
      have nro : br ≠ bo := by omega
      have ngb : gl ≠ b := fun e => own_blk_ne hM2.ol hM2.blk (by decide) (by rw [← e]; rfl)
      have nrb' : gr ≠ b := fun e => own_blk_ne hM2.or hM2.blk (by decide) (by rw [← e]; rfl)
      have ngr : gl ≠ gr := fun e => hM2.d1 gl rfl (by rw [e]; rfl)
      have cgl : w2.cell? ⟨gl, r.proc, none⟩ = some (.int .i64 (V'.last r.proc)) := by
        rw [World.ownsRow.cellAt hM2.ol _ (by omega), ints_get _ _ (by simpa using hap)]; simp [hap]
      have cgr : w2.cell? ⟨gr, r.proc, none⟩ = some (.int .i64 (V'.resp r.proc)) := by
        rw [World.ownsRow.cellAt hM2.or _ (by omega), ints_get _ _ (by simpa using hap)]; simp [hap]
      have fgl : w2.frozen? ⟨gl, r.proc, none⟩ = false := World.ownsRow.frozenAt hM2.ol _
      have fgr : w2.frozen? ⟨gr, r.proc, none⟩ = false := World.ownsRow.frozenAt hM2.or _
      have hll : gl < w2.drew.heap.size := own_lt hM2.ol rfl
      have hlrr : gr < w2.drew.heap.size := own_lt hM2.or rfl
      have HST := fun W hx => Lib.hid (hst W hx)
      have HQ := Lib.hid hq
      have hB2 := hM2.blk
      have HM2 := Lib.hid hM2
      clear hst hq hM2
      refine start_ (n := 16) (S := fun w' => w'.cell? ⟨b, 0, none⟩ = some (.int .i64 V'.st.kind) ∧ w'.cell? ⟨b, 1, none⟩ = some (.slice aw V'.st.L.length cw) ∧ w'.cell? ⟨b, 2, none⟩ = some (.bool V'.st.isSealed) ∧ w'.cell? ⟨b, 3, none⟩ = some (.int .i64 V'.st.to) ∧ w'.cell? ⟨bo, 2, none⟩ = some (.int .i64 r.op.code) ∧ w'.cell? ⟨bo, 3, none⟩ = some (.int .i64 r.op.a) ∧ w'.cell? ⟨bo, 4, none⟩ = some (.int .i64 r.op.b)) (ds := [13, 15]) #[false, false, false, false, false, false, false, false, false, false, false, false, false, false, false, false] (by kernel_rfl) rfl rfl ⟨m0, m1, m2, m3, o2, o3, o4⟩ (fun hHeld => ?_)
      refine pure_ (i := 0) (N := some 59) (v := ?_) (a' := ?_) #[true, false, false, false, false, false, false, false, false, false, false, false, false, false, false, false] rfl rfl (by kernel_rfl) (fun _ _ _ h => h) (Or.inl ⟨by rfl, ?_⟩) ?_ ?_
      rotate_left
      · intro w'
        go_simp
        with_reducible rfl
      rotate_left
      · simp only [Act.put, List.setIfInBounds_toArray, List.set_cons_zero, List.set_cons_succ, i64_w, i32_w]
        rfl
      refine pure_ (i := 1) (N := some 60) (v := ?_) (a' := ?_) #[true, true, false, false, false, false, false, false, false, false, false, false, false, false, false, false] rfl rfl (by kernel_rfl) (fun _ _ _ h => h) (Or.inl ⟨by rfl, ?_⟩) ?_ ?_
      rotate_left
      · intro w'
        go_simp
        with_reducible rfl
      rotate_left
      · simp only [Act.put, List.setIfInBounds_toArray, List.set_cons_zero, List.set_cons_succ, i64_w, i32_w]
        rfl
      refine pure_ (i := 2) (N := some 61) (v := ?_) (a' := ?_) #[true, true, true, false, false, false, false, false, false, false, false, false, false, false, false, false] rfl rfl (by kernel_rfl) (fun _ _ _ h => h) (Or.inl ⟨by rfl, ?_⟩) ?_ ?_
      rotate_left
      · intro w'
        go_simp
        with_reducible rfl
      rotate_left
      · simp only [Act.put, List.setIfInBounds_toArray, List.set_cons_zero, List.set_cons_succ, i64_w, i32_w]
        rfl
      refine pure_ (i := 3) (N := some 62) (v := ?_) (a' := ?_) #[true, true, true, true, false, false, false, false, false, false, false, false, false, false, false, false] rfl rfl (by kernel_rfl) (fun _ _ _ h => h) (Or.inl ⟨by rfl, ?_⟩) ?_ ?_
      rotate_left
      · intro w'
        go_simp
        with_reducible rfl
      rotate_left
      · simp only [Act.put, List.setIfInBounds_toArray, List.set_cons_zero, List.set_cons_succ, i64_w, i32_w]
        rfl
      refine pure_ (i := 5) (N := some 64) (v := ?_) (a' := ?_) #[true, true, true, true, false, true, false, false, false, false, false, false, false, false, false, false] rfl rfl (by kernel_rfl) (fun _ _ _ h => h) (Or.inl ⟨by rfl, ?_⟩) ?_ ?_
      rotate_left
      · intro w'
        go_simp
        with_reducible rfl
      rotate_left
      · simp only [Act.put, List.setIfInBounds_toArray, List.set_cons_zero, List.set_cons_succ, i64_w, i32_w]
        rfl
      refine take_ (i := 4) (N := some 63) (v := ?_) (a' := ?_) #[true, true, true, true, true, true, false, false, false, false, false, false, false, false, false, false] rfl rfl (by kernel_rfl) (fun _ _ _ h => h) (Or.inl ⟨by rfl, ?_⟩) hHeld ?_ ?_
      rotate_left
      · rintro w' ⟨s0, s1, s2, s3, s4, s5, s6⟩
        go_simp
        with_reducible rfl
      rotate_left
      · simp only [Act.put, List.setIfInBounds_toArray, List.set_cons_zero, List.set_cons_succ, i64_w, i32_w]
        rfl
      refine take_ (i := 6) (N := some 65) (v := ?_) (a' := ?_) #[true, true, true, true, true, true, true, false, false, false, false, false, false, false, false, false] rfl rfl (by kernel_rfl) (fun _ _ _ h => h) (Or.inl ⟨by rfl, ?_⟩) hHeld ?_ ?_
      rotate_left
      · rintro w' ⟨s0, s1, s2, s3, s4, s5, s6⟩
        go_simp
        with_reducible rfl
      rotate_left
      · simp only [Act.put, List.setIfInBounds_toArray, List.set_cons_zero, List.set_cons_succ, i64_w, i32_w]
        rfl
      refine one_ (i := 7) (N := some 66) #[true, true, true, true, true, true, true, true, false, false, false, false, false, false, false, false] rfl rfl (by kernel_rfl) (by decide) (fun K hK => ?_)
      refine goes_ Try.func55 (by kernel_rfl) rfl #[.agg #[.int .i64 V'.st.kind, .slice aw V'.st.L.length cw, .bool V'.st.isSealed, .int .i64 V'.st.to], .agg #[.int .i64 r.op.code, .int .i64 r.op.a, .int .i64 r.op.b]] (by rfl) rfl rfl (by simp only [List.map_toArray, List.map_cons, List.map_nil]; rfl) ?_
      with_reducible refine ((HST _ hrd.drew).out).mono ?_
      rintro e w3 ⟨vn, rfl, rdn, beln, orn⟩
      refine ⟨_, rfl, ?_⟩
      obtain ⟨an, cn, evn, _⟩ := id rdn
      subst evn
      have hB3 : Blk w3 b _ _ := hB2.drew.below beln hlb
      have hR3 : Blk w3 br _ _ := hR2.drew.below beln hlr
      have hO3 : Blk w3 bo _ _ := hO2.drew.below beln hlo
      have n0 := hB3.cell 0
      have n1 := hB3.cell 1
      have n2 := hB3.cell 2
      have n3 := hB3.cell 3
      have fn0 := hB3.frozen 0
      have fn1 := hB3.frozen 1
      have fn2 := hB3.frozen 2
      have fn3 := hB3.frozen 3
      have n6 := hR3.cell 6
      have fn6 := hR3.frozen 6
      try clear hHeld
      refine hK.out _ _ ⟨(beln.cell (p := ⟨b, 0, none⟩) hlb).trans m0, (beln.cell (p := ⟨b, 1, none⟩) hlb).trans m1, (beln.cell (p := ⟨b, 2, none⟩) hlb).trans m2, (beln.cell (p := ⟨b, 3, none⟩) hlb).trans m3, (beln.cell (p := ⟨bo, 2, none⟩) hlo).trans o2, (beln.cell (p := ⟨bo, 3, none⟩) hlo).trans o3, (beln.cell (p := ⟨bo, 4, none⟩) hlo).trans o4⟩ (fun hHeld => ?_)
      clear hK K
      refine norm_ (a' := ?_) ?_ ?_
      rotate_left
      · show Act.put _ (some 66) _ = _
        simp only [Act.put, List.setIfInBounds_toArray, List.set_cons_zero, List.set_cons_succ, i64_w, i32_w]
        rfl
      refine pure_ (i := 8) (N := some 58) (v := ?_) (a' := ?_) #[true, true, true, true, true, true, true, true, true, false, false, false, false, false, false, false] rfl rfl (by kernel_rfl) (fun _ _ _ h => h) (Or.inl ⟨by rfl, ?_⟩) ?_ ?_
      rotate_left
      · intro w'
        go_simp
        with_reducible rfl
      rotate_left
      · simp only [Act.put, List.setIfInBounds_toArray, List.set_cons_zero, List.set_cons_succ, i64_w, i32_w]
        rfl
      refine pure_ (i := 9) (N := some 67) (v := ?_) (a' := ?_) #[true, true, true, true, true, true, true, true, true, true, false, false, false, false, false, false] rfl rfl (by kernel_rfl) (fun _ _ _ h => h) (Or.inl ⟨by rfl, ?_⟩) ?_ ?_
      rotate_left
      · intro w'
        go_simp
        with_reducible rfl
      rotate_left
      · simp only [Act.put, List.setIfInBounds_toArray, List.set_cons_zero, List.set_cons_succ, i64_w, i32_w]
        rfl
      refine pure_ (i := 10) (N := some 68) (v := ?_) (a' := ?_) #[true, true, true, true, true, true, true, true, true, true, true, false, false, false, false, false] rfl rfl (by kernel_rfl) (fun _ _ _ h => h) (Or.inl ⟨by rfl, ?_⟩) ?_ ?_
      rotate_left
      · intro w'
        go_simp
        with_reducible rfl
      rotate_left
      · simp only [Act.put, List.setIfInBounds_toArray, List.set_cons_zero, List.set_cons_succ, i64_w, i32_w]
        rfl
      refine pure_ (i := 11) (N := some 69) (v := ?_) (a' := ?_) #[true, true, true, true, true, true, true, true, true, true, true, true, false, false, false, false] rfl rfl (by kernel_rfl) (fun _ _ _ h => h) (Or.inl ⟨by rfl, ?_⟩) ?_ ?_
      rotate_left
      · intro w'
        go_simp
        with_reducible rfl
      rotate_left
      · simp only [Act.put, List.setIfInBounds_toArray, List.set_cons_zero, List.set_cons_succ, i64_w, i32_w]
        rfl
      refine pure_ (i := 12) (N := some 70) (v := ?_) (a' := ?_) #[true, true, true, true, true, true, true, true, true, true, true, true, true, false, false, false] rfl rfl (by kernel_rfl) (fun _ _ _ h => h) (Or.inl ⟨by rfl, ?_⟩) ?_ ?_
      rotate_left
      · intro w'
        go_simp
        with_reducible rfl
      rotate_left
      · simp only [Act.put, List.setIfInBounds_toArray, List.set_cons_zero, List.set_cons_succ, i64_w, i32_w]
        rfl
      refine last_ (i := 13) (N := none) #[true, true, true, true, true, true, true, true, true, true, true, true, true, true, false, false] rfl rfl (by kernel_rfl) (by decide) (fun K hK => ?_)
      refine skip_ (w1 := ?_) (by rfl) rfl ?_ ?_
      rotate_left
      · go_simp
        rfl
      try clear hHeld
      refine hK.out _ _ ?_
      clear hK K
      refine pure_ (i := 14) (N := some 71) (v := ?_) (a' := ?_) #[true, true, true, true, true, true, true, true, true, true, true, true, true, true, true, false] rfl rfl (by kernel_rfl) (fun _ _ _ h => h) (Or.inl ⟨by rfl, ?_⟩) ?_ ?_
      rotate_left
      · intro w'
        go_simp
        with_reducible rfl
      rotate_left
      · simp only [Act.put, List.setIfInBounds_toArray, List.set_cons_zero, List.set_cons_succ, i64_w, i32_w]
        rfl
      refine last_ (i := 15) (N := none) #[true, true, true, true, true, true, true, true, true, true, true, true, true, true, true, true] rfl rfl (by kernel_rfl) (by decide) (fun K hK => ?_)
      refine skip_ (w1 := ?_) (by rfl) rfl ?_ ?_
      rotate_left
      · go_simp
        rfl
      try clear hHeld
      refine hK.out _ _ ?_
      clear hK K
      try clear hHeld
      refine done_ (by kernel_rfl) ?_
      go_wp2_with fail
      clear m0 m1 m2 m3 o2 o3 o4 n0 n1 n2 n3 fn0 fn1 fn2 fn3 n6 fn6
      have hB4 := ((((hB3.set 0 (.int .i64 q.1.kind)).set 1 (.slice an q.1.L.length cn)).set 2 (.bool q.1.isSealed)).set 3 (.int .i64 q.1.to)).other (a := ⟨br, 6, none⟩) nbr (.int .i64 q.2)
      have hR4 := ((((hR3.other (a := ⟨b, 0, none⟩) nrb (.int .i64 q.1.kind)).other (a := ⟨b, 1, none⟩) nrb (.slice an q.1.L.length cn)).other (a := ⟨b, 2, none⟩) nrb (.bool q.1.isSealed)).other (a := ⟨b, 3, none⟩) nrb (.int .i64 q.1.to)).set 6 (.int .i64 q.2)
      have hO4 := ((((hO3.other (a := ⟨b, 0, none⟩) (Ne.symm nbo) (.int .i64 q.1.kind)).other (a := ⟨b, 1, none⟩) (Ne.symm nbo) (.slice an q.1.L.length cn)).other (a := ⟨b, 2, none⟩) (Ne.symm nbo) (.bool q.1.isSealed)).other (a := ⟨b, 3, none⟩) (Ne.symm nbo) (.int .i64 q.1.to)).other (a := ⟨br, 6, none⟩) (Ne.symm nro) (.int .i64 q.2)
      have K34 : Keeps (fun k => k = b ∨ k = br) w3 _ := (((((Keeps.refl _ _).set b 0 (.inl (.inl rfl)) (.int .i64 q.1.kind)).set b 1 (.inl (.inl rfl)) (.slice an q.1.L.length cn)).set b 2 (.inl (.inl rfl)) (.bool q.1.isSealed)).set b 3 (.inl (.inl rfl)) (.int .i64 q.1.to)).set br 6 (.inl (.inr rfl)) (.int .i64 q.2)
      have ngbr : gl ≠ br := by omega
      have nobo : bo ≠ gl := by omega
      have nrbr : gr ≠ br := by omega
      have cgl3 := (beln.cell (p := ⟨gl, r.proc, none⟩) hll).trans cgl
      have cgr3 := (beln.cell (p := ⟨gr, r.proc, none⟩) hlrr).trans cgr
      have fgl3 := (beln.frozen (p := ⟨gl, r.proc, none⟩) hll).trans fgl
      have fgr3 := (beln.frozen (p := ⟨gr, r.proc, none⟩) hlrr).trans fgr
      have hgl3 : gl < w3.heap.size := Nat.lt_of_lt_of_le hll beln.size
      have hgr3 : gr < w3.heap.size := Nat.lt_of_lt_of_le hlrr beln.size
      have cgl4 := K34.cellSome (p := ⟨gl, r.proc, none⟩) (by rintro (e | e); exact ngb e; exact ngbr e) cgl3
      have cgr4 := K34.cellSome (p := ⟨gr, r.proc, none⟩) (by rintro (e | e); exact nrb' e; exact nrbr e) cgr3
      have fgl4 := (K34.frozen (p := ⟨gl, r.proc, none⟩) (by rintro (e | e); exact ngb e; exact ngbr e) hgl3).trans fgl3
      have fgr4 := (K34.frozen (p := ⟨gr, r.proc, none⟩) (by rintro (e | e); exact nrb' e; exact nrbr e) hgr3).trans fgr3
      clear cgl cgr fgl fgr cgl3 cgr3 fgl3 fgr3 hll hlrr hB3 hR3 hO3
      generalize ((((w3.setCell ⟨b, 0, none⟩ (.int .i64 q.1.kind)).setCell ⟨b, 1, none⟩ (.slice an q.1.L.length cn)).setCell ⟨b, 2, none⟩ (.bool q.1.isSealed)).setCell ⟨b, 3, none⟩ (.int .i64 q.1.to)).setCell ⟨br, 6, none⟩ (.int .i64 q.2) = w4 at *
      have s4 : w4.cell? ⟨b, 4, none⟩ = some (.slice (some ⟨gl, 0, none⟩) n cl') := hB4.cell 4
      have s5 : w4.cell? ⟨b, 5, none⟩ = some (.slice (some ⟨gr, 0, none⟩) n cr') := hB4.cell 5
      have o0 : w4.cell? ⟨bo, 0, none⟩ = some (.int .i64 r.proc) := hO4.cell 0
      have r6 : w4.cell? ⟨br, 6, none⟩ = some (.int .i64 q.2) := hR4.cell 6
      have j1 : (0 : Int) ≤ (r.proc : Int) := by omega
      have j2 : (r.proc : Int) < (n : Int) := by omega
      have HRD := Lib.hid rdn
      have HBE := Lib.hid beln
      have HOR := Lib.hid orn
      have HK34 := Lib.hid K34
      clear rdn beln orn K34
      refine start_ (n := 19) (S := fun w' => w'.cell? ⟨b, 4, none⟩ = some (.slice (some ⟨gl, 0, none⟩) n cl') ∧ w'.cell? ⟨b, 5, none⟩ = some (.slice (some ⟨gr, 0, none⟩) n cr') ∧ w'.cell? ⟨bo, 0, none⟩ = some (.int .i64 r.proc) ∧ w'.cell? ⟨br, 6, none⟩ = some (.int .i64 q.2)) (ds := [18]) #[false, false, false, false, false, false, false, false, false, false, false, false, false, false, false, false, false, false, false] (by kernel_rfl) rfl rfl ⟨s4, s5, o0, r6⟩ (fun hHeld => ?_)
      refine pure_ (i := 0) (N := some 72) (v := ?_) (a' := ?_) #[true, false, false, false, false, false, false, false, false, false, false, false, false, false, false, false, false, false, false] rfl rfl (by kernel_rfl) (fun _ _ _ h => h) (Or.inl ⟨by rfl, ?_⟩) ?_ ?_
      rotate_left
      · intro w'
        go_simp
        with_reducible rfl
      rotate_left
      · simp only [Act.put, List.setIfInBounds_toArray, List.set_cons_zero, List.set_cons_succ, i64_w, i32_w]
        rfl
      refine pure_ (i := 1) (N := some 73) (v := ?_) (a' := ?_) #[true, true, false, false, false, false, false, false, false, false, false, false, false, false, false, false, false, false, false] rfl rfl (by kernel_rfl) (fun _ _ _ h => h) (Or.inl ⟨by rfl, ?_⟩) ?_ ?_
      rotate_left
      · intro w'
        go_simp
        with_reducible rfl
      rotate_left
      · simp only [Act.put, List.setIfInBounds_toArray, List.set_cons_zero, List.set_cons_succ, i64_w, i32_w]
        rfl
      refine pure_ (i := 2) (N := some 74) (v := ?_) (a' := ?_) #[true, true, true, false, false, false, false, false, false, false, false, false, false, false, false, false, false, false, false] rfl rfl (by kernel_rfl) (fun _ _ _ h => h) (Or.inl ⟨by rfl, ?_⟩) ?_ ?_
      rotate_left
      · intro w'
        go_simp
        with_reducible rfl
      rotate_left
      · simp only [Act.put, List.setIfInBounds_toArray, List.set_cons_zero, List.set_cons_succ, i64_w, i32_w]
        rfl
      refine pure_ (i := 4) (N := some 76) (v := ?_) (a' := ?_) #[true, true, true, false, true, false, false, false, false, false, false, false, false, false, false, false, false, false, false] rfl rfl (by kernel_rfl) (fun _ _ _ h => h) (Or.inl ⟨by rfl, ?_⟩) ?_ ?_
      rotate_left
      · intro w'
        go_simp
        with_reducible rfl
      rotate_left
      · simp only [Act.put, List.setIfInBounds_toArray, List.set_cons_zero, List.set_cons_succ, i64_w, i32_w]
        rfl
      refine pure_ (i := 6) (N := some 78) (v := ?_) (a' := ?_) #[true, true, true, false, true, false, true, false, false, false, false, false, false, false, false, false, false, false, false] rfl rfl (by kernel_rfl) (fun _ _ _ h => h) (Or.inl ⟨by rfl, ?_⟩) ?_ ?_
      rotate_left
      · intro w'
        go_simp
        with_reducible rfl
      rotate_left
      · simp only [Act.put, List.setIfInBounds_toArray, List.set_cons_zero, List.set_cons_succ, i64_w, i32_w]
        rfl
      refine pure_ (i := 7) (N := some 79) (v := ?_) (a' := ?_) #[true, true, true, false, true, false, true, true, false, false, false, false, false, false, false, false, false, false, false] rfl rfl (by kernel_rfl) (fun _ _ _ h => h) (Or.inl ⟨by rfl, ?_⟩) ?_ ?_
      rotate_left
      · intro w'
        go_simp
        with_reducible rfl
      rotate_left
      · simp only [Act.put, List.setIfInBounds_toArray, List.set_cons_zero, List.set_cons_succ, i64_w, i32_w]
        rfl
      refine pure_ (i := 8) (N := some 80) (v := ?_) (a' := ?_) #[true, true, true, false, true, false, true, true, true, false, false, false, false, false, false, false, false, false, false] rfl rfl (by kernel_rfl) (fun _ _ _ h => h) (Or.inl ⟨by rfl, ?_⟩) ?_ ?_
      rotate_left
      · intro w'
        go_simp
        with_reducible rfl
      rotate_left
      · simp only [Act.put, List.setIfInBounds_toArray, List.set_cons_zero, List.set_cons_succ, i64_w, i32_w]
        rfl
      refine pure_ (i := 10) (N := some 82) (v := ?_) (a' := ?_) #[true, true, true, false, true, false, true, true, true, false, true, false, false, false, false, false, false, false, false] rfl rfl (by kernel_rfl) (fun _ _ _ h => h) (Or.inl ⟨by rfl, ?_⟩) ?_ ?_
      rotate_left
      · intro w'
        go_simp
        with_reducible rfl
      rotate_left
      · simp only [Act.put, List.setIfInBounds_toArray, List.set_cons_zero, List.set_cons_succ, i64_w, i32_w]
        rfl
      refine pure_ (i := 12) (N := some 84) (v := ?_) (a' := ?_) #[true, true, true, false, true, false, true, true, true, false, true, false, true, false, false, false, false, false, false] rfl rfl (by kernel_rfl) (fun _ _ _ h => h) (Or.inl ⟨by rfl, ?_⟩) ?_ ?_
      rotate_left
      · intro w'
        go_simp
        with_reducible rfl
      rotate_left
      · simp only [Act.put, List.setIfInBounds_toArray, List.set_cons_zero, List.set_cons_succ, i64_w, i32_w]
        rfl
      refine pure_ (i := 13) (N := some 85) (v := ?_) (a' := ?_) #[true, true, true, false, true, false, true, true, true, false, true, false, true, true, false, false, false, false, false] rfl rfl (by kernel_rfl) (fun _ _ _ h => h) (Or.inl ⟨by rfl, ?_⟩) ?_ ?_
      rotate_left
      · intro w'
        go_simp
        with_reducible rfl
      rotate_left
      · simp only [Act.put, List.setIfInBounds_toArray, List.set_cons_zero, List.set_cons_succ, i64_w, i32_w]
        rfl
      refine take_ (i := 3) (N := some 75) (v := ?_) (a' := ?_) #[true, true, true, true, true, false, true, true, true, false, true, false, true, true, false, false, false, false, false] rfl rfl (by kernel_rfl) (fun _ _ _ h => h) (Or.inl ⟨by rfl, ?_⟩) hHeld ?_ ?_
      rotate_left
      · rintro w' ⟨s0, s1, s2, s3⟩
        go_simp
        with_reducible rfl
      rotate_left
      · simp only [Act.put, List.setIfInBounds_toArray, List.set_cons_zero, List.set_cons_succ, i64_w, i32_w]
        rfl
      refine take_ (i := 5) (N := some 77) (v := ?_) (a' := ?_) #[true, true, true, true, true, true, true, true, true, false, true, false, true, true, false, false, false, false, false] rfl rfl (by kernel_rfl) (fun _ _ _ h => h) (Or.inl ⟨by rfl, ?_⟩) hHeld ?_ ?_
      rotate_left
      · rintro w' ⟨s0, s1, s2, s3⟩
        go_simp
        with_reducible rfl
      rotate_left
      · simp only [Act.put, List.setIfInBounds_toArray, List.set_cons_zero, List.set_cons_succ, i64_w, i32_w]
        rfl
      refine take_ (i := 9) (N := some 81) (v := ?_) (a' := ?_) #[true, true, true, true, true, true, true, true, true, true, true, false, true, true, false, false, false, false, false] rfl rfl (by kernel_rfl) (fun _ _ _ h => h) (Or.inl ⟨by rfl, ?_⟩) hHeld ?_ ?_
      rotate_left
      · rintro w' ⟨s0, s1, s2, s3⟩
        go_simp
        with_reducible rfl
      rotate_left
      · simp only [Act.put, List.setIfInBounds_toArray, List.set_cons_zero, List.set_cons_succ, i64_w, i32_w]
        rfl
      refine pure_ (i := 15) (N := some 87) (v := ?_) (a' := ?_) #[true, true, true, true, true, true, true, true, true, true, true, false, true, true, false, true, false, false, false] rfl rfl (by kernel_rfl) (fun _ _ _ h => h) (Or.inl ⟨by rfl, ?_⟩) ?_ ?_
      rotate_left
      · intro w'
        go_simp
        with_reducible rfl
      rotate_left
      · simp only [Act.put, List.setIfInBounds_toArray, List.set_cons_zero, List.set_cons_succ, i64_w, i32_w]
        rfl
      refine take_ (i := 11) (N := some 83) (v := ?_) (a' := ?_) #[true, true, true, true, true, true, true, true, true, true, true, true, true, true, false, true, false, false, false] rfl rfl (by kernel_rfl) (fun _ _ _ h => h) (Or.inl ⟨by rfl, ?_⟩) hHeld ?_ ?_
      rotate_left
      · rintro w' ⟨s0, s1, s2, s3⟩
        go_simp
        with_reducible rfl
      rotate_left
      · simp only [Act.put, List.setIfInBounds_toArray, List.set_cons_zero, List.set_cons_succ, i64_w, i32_w]
        rfl
      refine take_ (i := 14) (N := some 86) (v := ?_) (a' := ?_) #[true, true, true, true, true, true, true, true, true, true, true, true, true, true, true, true, false, false, false] rfl rfl (by kernel_rfl) (fun _ _ _ h => h) (Or.inl ⟨by rfl, ?_⟩) hHeld ?_ ?_
      rotate_left
      · rintro w' ⟨s0, s1, s2, s3⟩
        go_simp
        with_reducible rfl
      rotate_left
      · simp only [Act.put, List.setIfInBounds_toArray, List.set_cons_zero, List.set_cons_succ, i64_w, i32_w]
        rfl
      refine one_ (i := 16) (N := none) #[true, true, true, true, true, true, true, true, true, true, true, true, true, true, true, true, true, false, false] rfl rfl (by kernel_rfl) (by decide) (fun K hK => ?_)
      refine skip_ (w1 := ?_) (by rfl) rfl ?_ ?_
      rotate_left
      · go_simp
        rfl
      try clear hHeld
      refine hK.out _ _ ⟨(hB4.drew.other (a := ⟨gl, r.proc, none⟩) (Ne.symm ngb) (.int .i64 (a : Nat))).cell 4, (hB4.drew.other (a := ⟨gl, r.proc, none⟩) (Ne.symm ngb) (.int .i64 (a : Nat))).cell 5, (hO4.drew.other (a := ⟨gl, r.proc, none⟩) nobo (.int .i64 (a : Nat))).cell 0, (hR4.drew.other (a := ⟨gl, r.proc, none⟩) (Ne.symm ngbr) (.int .i64 (a : Nat))).cell 6⟩ (fun hHeld => ?_)
      clear hK K
      refine pure_ (i := 17) (N := some 88) (v := ?_) (a' := ?_) #[true, true, true, true, true, true, true, true, true, true, true, true, true, true, true, true, true, true, false] rfl rfl (by kernel_rfl) (fun _ _ _ h => h) (Or.inl ⟨by rfl, ?_⟩) ?_ ?_
      rotate_left
      · intro w'
        go_simp
        with_reducible rfl
      rotate_left
      · simp only [Act.put, List.setIfInBounds_toArray, List.set_cons_zero, List.set_cons_succ, i64_w, i32_w]
        rfl
      refine last_ (i := 18) (N := none) #[true, true, true, true, true, true, true, true, true, true, true, true, true, true, true, true, true, true, true] rfl rfl (by kernel_rfl) (by decide) (fun K hK => ?_)
      refine skip_ (w1 := ?_) (by rfl) rfl ?_ ?_
      rotate_left
      · go_simp
        rfl
      try clear hHeld
      refine hK.out _ _ ?_
      clear hK K
      try clear hHeld
      refine done_ (by kernel_rfl) ?_
      go_wp2_with fail
      have K45 : Keeps (fun k => k = gl ∨ k = gr) w4 (((w4.setCell ⟨gl, r.proc, none⟩ (.int .i64 (a : Nat))).setCell ⟨gr, r.proc, none⟩ (.int .i64 q.2)).drew) := (((Keeps.refl _ _).set gl _ (.inl (.inl rfl)) _).set gr _ (.inl (.inr rfl)) _).drew
      have hB5 := hB4.keeps K45 (by rintro (e | e); exact ngb e.symm; exact nrb' e.symm)
      have hR5 := hR4.keeps K45 (by rintro (e | e); exact ngbr e.symm; exact nrbr e.symm)
      clear s4 s5 o0 r6 cgl4 cgr4 fgl4 fgr4 K45
      have hw5 : ((w4.setCell ⟨gl, r.proc, none⟩ (.int .i64 (a : Nat))).setCell ⟨gr, r.proc, none⟩ (.int .i64 q.2)).drew = (w4.drew.setCell ⟨gl, r.proc, none⟩ (.int .i64 (a : Nat))).setCell ⟨gr, r.proc, none⟩ (.int .i64 q.2) := rfl
      generalize ((w4.setCell ⟨gl, r.proc, none⟩ (.int .i64 (a : Nat))).setCell ⟨gr, r.proc, none⟩ (.int .i64 q.2)).drew = w5 at *
      have HW5 := Lib.hid hw5
      clear hw5
      have u6 : w5.cell? ⟨b, 6, none⟩ = some (.slice ag' V'.log.length cg') := hB5.cell 6
      have t0 : w5.cell? ⟨br, 0, none⟩ = some (.int .i64 V'.log.length) := hR5.cell 0
      have t1 : w5.cell? ⟨br, 1, none⟩ = some (.int .i64 r.proc) := hR5.cell 1
      have t2 : w5.cell? ⟨br, 2, none⟩ = some (.int .i64 r.many) := hR5.cell 2
      have t3 : w5.cell? ⟨br, 3, none⟩ = some (.int .i64 r.op.code) := hR5.cell 3
      have t4 : w5.cell? ⟨br, 4, none⟩ = some (.int .i64 r.op.a) := hR5.cell 4
      have t5 : w5.cell? ⟨br, 5, none⟩ = some (.int .i64 r.op.b) := hR5.cell 5
      have t6 : w5.cell? ⟨br, 6, none⟩ = some (.int .i64 q.2) := hR5.cell 6
      have HG5 : Hid (Own w5 39 7 (.slice ag' V'.log.length cg') V'.log.length (V'.log.flatMap recV)) := Lib.hid (by
        have g3 := own_keeps (w := w2.drew) HM2.out.og (Keeps.ofBelow (F := fun _ => False) HBE.out) (fun _ _ h => h)
        have g4 := own_keeps g3 HK34.out (fun x hx hf => by
          rcases hf with rfl | rfl
          · exact own_blk_ne HM2.out.og hB2 (by decide) hx
          · exact hgbr hx)
        have k45 : Keeps (fun k => k = gl ∨ k = gr) w4 w5 := by rw [HW5.out]; exact (((Keeps.refl _ _).drew.set gl _ (.inl (.inl rfl)) _).set gr _ (.inl (.inr rfl)) _)
        refine own_keeps g4 k45 (fun x hx hf => ?_)
        rcases hf with rfl | rfl
        · exact own_type_ne HM2.out.ol HM2.out.og (by decide) rfl hx
        · exact own_type_ne HM2.out.or HM2.out.og (by decide) rfl hx)
      refine start_ (n := 11) (S := fun w' => w'.cell? ⟨b, 6, none⟩ = some (.slice ag' V'.log.length cg') ∧ w'.cell? ⟨br, 0, none⟩ = some (.int .i64 V'.log.length) ∧ w'.cell? ⟨br, 1, none⟩ = some (.int .i64 r.proc) ∧ w'.cell? ⟨br, 2, none⟩ = some (.int .i64 r.many) ∧ w'.cell? ⟨br, 3, none⟩ = some (.int .i64 r.op.code) ∧ w'.cell? ⟨br, 4, none⟩ = some (.int .i64 r.op.a) ∧ w'.cell? ⟨br, 5, none⟩ = some (.int .i64 r.op.b) ∧ w'.cell? ⟨br, 6, none⟩ = some (.int .i64 q.2)) (ds := [7, 10]) #[false, false, false, false, false, false, false, false, false, false, false] (by kernel_rfl) rfl rfl ⟨u6, t0, t1, t2, t3, t4, t5, t6⟩ (fun hHeld => ?_)
      refine pure_ (i := 0) (N := some 89) (v := ?_) (a' := ?_) #[true, false, false, false, false, false, false, false, false, false, false] rfl rfl (by kernel_rfl) (fun _ _ _ h => h) (Or.inl ⟨by rfl, ?_⟩) ?_ ?_
      rotate_left
      · intro w'
        go_simp
        with_reducible rfl
      rotate_left
      · simp only [Act.put, List.setIfInBounds_toArray, List.set_cons_zero, List.set_cons_succ, i64_w, i32_w]
        rfl
      refine pure_ (i := 1) (N := some 90) (v := ?_) (a' := ?_) #[true, true, false, false, false, false, false, false, false, false, false] rfl rfl (by kernel_rfl) (fun _ _ _ h => h) (Or.inl ⟨by rfl, ?_⟩) ?_ ?_
      rotate_left
      · intro w'
        go_simp
        with_reducible rfl
      rotate_left
      · simp only [Act.put, List.setIfInBounds_toArray, List.set_cons_zero, List.set_cons_succ, i64_w, i32_w]
        rfl
      refine pure_ (i := 2) (N := some 91) (v := ?_) (a' := ?_) #[true, true, true, false, false, false, false, false, false, false, false] rfl rfl (by kernel_rfl) (fun _ _ _ h => h) (Or.inl ⟨by rfl, ?_⟩) ?_ ?_
      rotate_left
      · intro w'
        go_simp
        with_reducible rfl
      rotate_left
      · simp only [Act.put, List.setIfInBounds_toArray, List.set_cons_zero, List.set_cons_succ, i64_w, i32_w]
        rfl
      refine pure_ (i := 3) (N := some 92) (v := ?_) (a' := ?_) #[true, true, true, true, false, false, false, false, false, false, false] rfl rfl (by kernel_rfl) (fun _ _ _ h => h) (Or.inl ⟨by rfl, ?_⟩) ?_ ?_
      rotate_left
      · intro w'
        go_simp
        with_reducible rfl
      rotate_left
      · simp only [Act.put, List.setIfInBounds_toArray, List.set_cons_zero, List.set_cons_succ, i64_w, i32_w]
        rfl
      refine take_ (i := 4) (N := some 93) (v := ?_) (a' := ?_) #[true, true, true, true, true, false, false, false, false, false, false] rfl rfl (by kernel_rfl) (fun _ _ _ h => h) (Or.inl ⟨by rfl, ?_⟩) hHeld ?_ ?_
      rotate_left
      · rintro w' ⟨s0, s1, s2, s3, s4, s5, s6, s7⟩
        go_simp
        with_reducible rfl
      rotate_left
      · simp only [Act.put, List.setIfInBounds_toArray, List.set_cons_zero, List.set_cons_succ, i64_w, i32_w]
        rfl
      refine take_ (i := 5) (N := some 94) (v := ?_) (a' := ?_) #[true, true, true, true, true, true, false, false, false, false, false] rfl rfl (by kernel_rfl) (fun _ _ _ h => h) (Or.inl ⟨by rfl, ?_⟩) hHeld ?_ ?_
      rotate_left
      · rintro w' ⟨s0, s1, s2, s3, s4, s5, s6, s7⟩
        go_simp
        with_reducible rfl
      rotate_left
      · simp only [Act.put, List.setIfInBounds_toArray, List.set_cons_zero, List.set_cons_succ, i64_w, i32_w]
        rfl
      refine one_ (i := 6) (N := some 95) #[true, true, true, true, true, true, true, false, false, false, false] rfl rfl (by kernel_rfl) (by decide) (fun K hK => ?_)
      refine value_ (w1 := ?_) (v := ?_) (by rfl) rfl ?_ ?_
      rotate_left 2
      · go_simp
        constructor
        · rfl
        · rfl
      try clear hHeld
      refine hK.out _ _ ⟨Lib.cell?_alloc_some _ u6, Lib.cell?_alloc_some _ t0, Lib.cell?_alloc_some _ t1, Lib.cell?_alloc_some _ t2, Lib.cell?_alloc_some _ t3, Lib.cell?_alloc_some _ t4, Lib.cell?_alloc_some _ t5, Lib.cell?_alloc_some _ t6⟩ (fun hHeld => ?_)
      clear hK K
      refine norm_ (a' := ?_) ?_ ?_
      rotate_left
      · show Act.put _ (some 95) _ = _
        simp only [Act.put, List.setIfInBounds_toArray, List.set_cons_zero, List.set_cons_succ, i64_w, i32_w]
        rfl
      refine last_ (i := 7) (N := some 96) #[true, true, true, true, true, true, true, true, false, false, false] rfl rfl (by kernel_rfl) (by decide) (fun K hK => ?_)
      refine append_own_ rfl rfl _ _ 34 rfl 39 (.agg #[.int .i64 0, .int .i64 0, .int .i64 0, .int .i64 0, .int .i64 0, .int .i64 0, .int .i64 0]) 7 56 Try.underlying34 infoRec rfl (by decide) (.slice ag' V'.log.length cg') V'.log.length (V'.log.flatMap recV) rfl (own_drew (HG5.out.alloc (.cells #[.int .i64 V'.log.length, .int .i64 r.proc, .int .i64 r.many, .int .i64 r.op.code, .int .i64 r.op.a, .int .i64 r.op.b, .int .i64 q.2] 39))) ⟨w5.heap.size, 0, none⟩ 1 1 (recV ⟨V'.log.length, r.proc, r.many, r.op, q.2⟩) rfl rfl (cells_new w5 (recV ⟨V'.log.length, r.proc, r.many, r.op, q.2⟩) 39) (by intro u hu; simp [recV] at hu; rcases hu with rfl | rfl | rfl | rfl | rfl | rfl | rfl <;> rfl) (by omega) (by decide) ?_
      intro vg' w6 hown hgrow hat
      obtain ⟨ag6, cg6, evg6⟩ := own_shape hown
      subst evg6
      have hB6 : Blk w6 b _ _ := ((grown_drew hgrow).block b (by have := hB5.lt; simp; omega) (fun e => own_blk_ne HG5.out hB5 (by decide) e.symm)).trans (hB5.alloc (.cells #[.int .i64 V'.log.length, .int .i64 r.proc, .int .i64 r.many, .int .i64 r.op.code, .int .i64 r.op.a, .int .i64 r.op.b, .int .i64 q.2] 39))
      have c66 := hB6.cell 6
      have f66 := hB6.frozen 6
      have HGR := Lib.hid (grown_drew hgrow)
      have HOW := Lib.hid hown
      have HAT := Lib.hid hat
      clear hgrow hown hat
      try clear hHeld
      refine hK.out _ _ ?_
      clear hK K
      refine norm_ (a' := ?_) ?_ ?_
      rotate_left
      · show Act.put _ (some 96) _ = _
        simp only [Act.put, List.setIfInBounds_toArray, List.set_cons_zero, List.set_cons_succ, i64_w, i32_w]
        rfl
      refine pure_ (i := 8) (N := some 97) (v := ?_) (a' := ?_) #[true, true, true, true, true, true, true, true, true, false, false] rfl rfl (by kernel_rfl) (fun _ _ _ h => h) (Or.inl ⟨by rfl, ?_⟩) ?_ ?_
      rotate_left
      · intro w'
        go_simp
        with_reducible rfl
      rotate_left
      · simp only [Act.put, List.setIfInBounds_toArray, List.set_cons_zero, List.set_cons_succ, i64_w, i32_w]
        rfl
      refine pure_ (i := 9) (N := some 98) (v := ?_) (a' := ?_) #[true, true, true, true, true, true, true, true, true, true, false] rfl rfl (by kernel_rfl) (fun _ _ _ h => h) (Or.inl ⟨by rfl, ?_⟩) ?_ ?_
      rotate_left
      · intro w'
        go_simp
        with_reducible rfl
      rotate_left
      · simp only [Act.put, List.setIfInBounds_toArray, List.set_cons_zero, List.set_cons_succ, i64_w, i32_w]
        rfl
      refine last_ (i := 10) (N := none) #[true, true, true, true, true, true, true, true, true, true, true] rfl rfl (by kernel_rfl) (by decide) (fun K hK => ?_)
      refine skip_ (w1 := ?_) (by rfl) rfl ?_ ?_
      rotate_left
      · go_simp
        rfl
      try clear hHeld
      refine hK.out _ _ ?_
      clear hK K
      try clear hHeld
      refine done_ (by kernel_rfl) ?_
      go_wp2_with fail
      go_roundw
      case rel =>
        have hq := HQ.out
        subst hq
        have hround := VMid.round (A := fun a => A.getD a noAsked) (w3 := w3) (w4 := w4.drew) (w5 := w5) (w6 := w6) (vn := .slice an (stepS V'.st r.op).1.L.length cn) (vg' := .slice ag6 (V'.log.length + 1) cg6) (HM2.out.below (Below.refl _ _).drew) HR.out.symm hap hwbr nrb hR2.drew hgbr HRD.out hl300 HBE.out HOR.out (HK34.out.drew) hB4.drew hR4.drew HW5.out HGR.out HOW.out HAT.out (hB6.set 6 _)
        rw [← HV.out] at hround
        have HRO := Lib.hid hround
        clear hround
        first
          | exact ⟨k + 1, _, _, _, _, by omega, by go_num, HRO.out⟩
          | ((repeat apply Exists.intro); exact ⟨⟨k + 1, _, _, _, _, by omega, by go_num, HRO.out⟩, rfl⟩)
      case measure => simp [intOf]; omega
    · obtain rfl : k = todo.length := by omega
      rw [List.take_length] at hV'
      subst hV'
      have HF := Lib.hid (show WithP w n (.slice aL V.st.L.length cL) (V.all (fun a => A.getD a noAsked) todo) (.returned (.pointer (some ⟨b, 0, none⟩))) wr from ⟨b, _, _, _, _, rfl, hM⟩)
      clear hM
      go_wp2_with fail
      go_ret
      exact HF.out
end Go.Proofs.Ytjfenjnnpikkdaa
/- Package psim: an object in memory that grows: copies, operations asked for. -/
namespace Go.Proofs.Ytjfenjnnpikkdaa
set_option linter.unusedVariables false
set_option maxRecDepth 100000
set_option linter.unusedSimpArgs false
open Go.RowKit

section
variable {w w' : World} {base be n p : Nat} {R : PRef} {E : PS}
theorem PRep.gen (h : PRep w base be R n E) (hp : p < n) {F : Nat → Prop} (k : Keeps F w w') (hF : ∀ k, F k → R.own k = some .mach ∨ R.own k = some (.proc p) ∨ R.own k = some .eng) (hvp : ∀ k, R.vp.ownBlock = some k → ¬ F k)
    (own' : Nat → Option Tag) (ho : ∀ k, k < w.heap.size → own' k = R.own k) (hn : ∀ k, w.heap.size ≤ k → own' k ≠ none → k < w'.heap.size)
    (annv : Nat → Nat) (rootv : Nat) (steps : List Int) (hM : Mach w' R.bm R.vc R.vs ⟨cellsP n { E with annv := annv, rootv := rootv }, steps⟩)
    (x : Pr) (bf : Int) (vt : Value) (hX : XRep w' own' be (R.pa p) p x bf vt)
    (va vv : Value) (hE : Blk w' be (engV { R with va := va, vv := vv } n) 76)
    (asked : List Asked) (hA : Own w' 91 5 va asked.length (asked.flatMap askedV)) (hAT : ∀ k, va.ownBlock = some k → own' k = some .eng)
    (vers : List Ver) (ver : Nat → Nat) (hV : Own w' 82 1 vv vers.length ((List.range vers.length).map fun i => ptrV (ver i))) (hVT : ∀ k, vv.ownBlock = some k → own' k = some .eng)
    (hver : ∀ i, i < vers.length → (i < E.vers.length ∧ vers.getD i noVer = E.ver i ∧ ver i = R.ver i) ∨ VRep w' base own' n (ver i) (vers.getD i noVer)) :
    PRep w' base be { R with own := own', steps := steps, pt := upd R.pt p vt, bef := upd R.bef p bf, va := va, vv := vv, ver := ver } n { annv := annv, rootv := rootv, procs := upd E.procs p x, asked := asked, vers := vers } := by
  have hlt : ∀ {t : Tag} {k}, R.own k = some t → k < w.heap.size := fun hk => (h.fresh _ (by rw [hk]; simp)).2
  have hold : ∀ {t : Tag} {k}, R.own k = some t → own' k = some t := fun hk => (ho _ (hlt hk)).trans hk
  refine ⟨h.small, ?_, hE, hold h.engT, hM, fun q hq => hold (h.machT q hq), own_keeps h.procs k hvp, fun q hq => hold (h.procsT q hq), ?_, hA, hAT, hV, hVT, ?_⟩
  · intro q hq
    simp only at hq
    by_cases c : q < w.heap.size
    · rw [ho q c] at hq
      exact ⟨(h.fresh q hq).1, Nat.lt_of_lt_of_le c k.size⟩
    · have hbase := (h.fresh be (by rw [h.engT]; simp))
      exact ⟨by omega, hn q (by omega) hq⟩
  · intro q hq
    simp only
    by_cases e : q = p
    · subst e
      simp only [upd_same]
      exact hX
    · rw [upd_ne _ _ e, upd_ne _ _ e, upd_ne _ _ e]
      refine (h.proc q hq).keeps k (fun j hj => ?_) (fun j hj => hold hj)
      rcases hF j hj with c | c | c <;> rw [c] <;> simp
      exact fun e' => e e'.symm
  · intro i hi
    rcases hver i hi with ⟨g1, g2, g3⟩ | g
    · simp only
      show VRep w' base own' n (ver i) (vers.getD i noVer)
      rw [g2, g3]
      refine (h.ver i g1).keeps k (fun j hj => ?_) (fun j hj => hold hj)
      have hj' := hF j hj
      refine ⟨by rcases hj' with c | c | c <;> rw [c] <;> simp, ?_⟩
      exact (h.fresh j (by rcases hj' with c | c | c <;> rw [c] <;> simp)).1
    · exact g

/-- A new copy, since w. -/
def NVer (w w1 : World) (n b : Nat) (v0 : Value) (L0 : List Int) (V : Ver) : Prop :=
  w.heap.size ≤ b ∧ ∃ vL vl vr vg, Blk w1 b #[.int .i64 V.st.kind, vL, .bool V.st.isSealed, .int .i64 V.st.to, vl, vr, vg] 84 ∧
    ((vL = v0 ∧ V.st.L = L0) ∨ (Own w1 3 1 vL V.st.L.length (ints V.st.L) ∧ Fresh w.heap.size vL)) ∧
    (Own w1 3 1 vl n (rangeI n fun q => (V.last q : Int)) ∧ Fresh w.heap.size vl) ∧ (Own w1 3 1 vr n (rangeI n V.resp) ∧ Fresh w.heap.size vr) ∧
    (Own w1 39 7 vg V.log.length (V.log.flatMap recV) ∧ Fresh w.heap.size vg)
theorem VMid.nver {w w1 : World} {n b : Nat} {v0 vL vl vr vg : Value} {V : Ver} {L0 : List Int} (h : VMid w w1 n b v0 vL vl vr vg V) (h0 : Rd w v0 L0) : NVer w w1 n b v0 L0 V := by
  refine ⟨h.ge, vL, vl, vr, vg, h.blk, ?_, ⟨h.ol, h.fl⟩, ⟨h.or, h.fr⟩, h.og, h.fg⟩
  rcases h.orL with e | ⟨e1, e2, _⟩
  · left
    refine ⟨e, ?_⟩
    have h1 := h.rdL
    rw [e] at h1
    exact rd_inj h1 (h0.below h.bel (Nat.le_refl _))
  · exact .inr ⟨e1, e2⟩
theorem NVer.keeps {w w1 w2 : World} {n b : Nat} {v0 : Value} {L0 : List Int} {V : Ver} {F : Nat → Prop} (h : NVer w w1 n b v0 L0 V) (k : Keeps F w1 w2) (hF : ∀ k, F k → k < w.heap.size) : NVer w w2 n b v0 L0 V := by
  obtain ⟨h0, vL, vl, vr, vg, h1, h2, ⟨h3, h3'⟩, ⟨h4, h4'⟩, h5, h5'⟩ := h
  have hf : ∀ {v : Value}, Fresh w.heap.size v → ∀ q, v.ownBlock = some q → ¬ F q := fun hv q hq hf => by have := hv q hq; have := hF q hf; omega
  exact ⟨h0, vL, vl, vr, vg, h1.keeps k (fun hf => by have := hF _ hf; omega), h2.imp id (fun g => ⟨own_keeps g.1 k (hf g.2), g.2⟩), ⟨own_keeps h3 k (hf h3'), h3'⟩, ⟨own_keeps h4 k (hf h4'), h4'⟩, own_keeps h5 k (hf h5'), h5'⟩

/-- The blocks that a swap turns. -/
def swapF (R : PRef) (be p : Nat) (k : Nat) : Prop := turnF R p k ∨ k = be ∨ R.vv.ownBlock = some k
theorem PRep.swapT (h : PRep w base be R n E) (hp : p < n) : ∀ k, swapF R be p k → R.own k = some .mach ∨ R.own k = some (.proc p) ∨ R.own k = some .eng := by
  rintro k (hk | rfl | hk)
  · rcases h.turnT hp k hk with e | e
    · exact .inl e
    · exact .inr (.inl e)
  · exact .inr (.inr h.engT)
  · exact .inr (.inr (h.versT k hk))
theorem PRep.vp_ne (h : PRep w base be R n E) (hp : p < n) : ∀ k, R.vp.ownBlock = some k → ¬ swapF R be p k := by
  rintro k hk (hf | rfl | hf)
  · have := h.procsT k hk
    rcases h.turnT hp k hf with e | e <;> rw [this] at e <;> simp at e
  · exact own_blk_ne h.procs h.eng (by decide) hk
  · exact own_type_ne h.procs h.vers (by decide) hk hf

/-- A swap, behind it all. -/
theorem PRep.swap_fin (h : PRep w base be R n E) (hp : p < n) {w3 : World} (hs : (E.procs p).seen < E.vers.length) {b : Nat} {v0 : Value} (hbel : Below w.heap.size w w3)
    (hv0 : w.cell? ⟨R.ver (E.procs p).seen, 1, none⟩ = some v0) (hN : NVer w w3 n b v0 (E.ver (E.procs p).seen).st.L ((E.ver (E.procs p).seen).all E.ask (E.procs p).todo))
    (k : Keeps (swapF R be p) w3 w') {rootv : Nat} {steps : List Int} (hM : Mach w' R.bm R.vc R.vs ⟨cellsP n { E with rootv := rootv }, steps⟩) {x : Pr} (hxt : x.todo = (E.procs p).todo) {vv : Value}
    (hB : Blk w' (R.pa p) (procV be p x (R.bef p) (phV (R.pa p) x.ph) (R.pt p)) 81) (hE : Blk w' be (engV { R with vv := vv } n) 76)
    (hV : Own w' 82 1 vv (E.vers.length + 1) (((List.range E.vers.length).map fun i => ptrV (R.ver i)) ++ [ptrV b])) (hvv : vv.ownBlock = R.vv.ownBlock ∨ Fresh w.heap.size vv) (v : Value) :
    PPost w base be R n { E with rootv := rootv, procs := upd E.procs p x, vers := E.vers ++ [(E.ver (E.procs p).seen).all E.ask (E.procs p).todo] } v (.returned v) w' := by
  have hx := h.proc p hp
  have hT := h.swapT hp
  have hlt : ∀ {t : Tag} {k}, R.own k = some t → k < w.heap.size := fun hk => (h.fresh _ (by rw [hk]; simp)).2
  have hFlt : ∀ k, swapF R be p k → k < w.heap.size := fun j hj => by
    rcases hT j hj with e | e | e <;> exact hlt e
  have k0 : Keeps (swapF R be p) w w' := (Keeps.ofBelow hbel).trans' k
  have hz := k0.size
  have hN' := hN.keeps k hFlt
  obtain ⟨hb0, vL, vl, vr, vg, hNb, hNL, ⟨hNl, hNl'⟩, ⟨hNr, hNr'⟩, hNg, hNg'⟩ := hN'
  generalize hown : (fun q => if q < w.heap.size then R.own q else if q < w'.heap.size then (if vv.ownBlock = some q then some Tag.eng else some Tag.imm) else none) = own'
  have ho : ∀ q, q < w.heap.size → own' q = R.own q := fun q hq => by subst hown; simp only; rw [if_pos hq]
  have hold : ∀ {t : Tag} {k}, R.own k = some t → own' k = some t := fun hk => (ho _ (hlt hk)).trans hk
  have himm : ∀ q, w.heap.size ≤ q → q < w'.heap.size → vv.ownBlock ≠ some q → own' q = some .imm := fun q h1 h2 h3 => by subst hown; simp only; rw [if_neg (by omega), if_pos h2, if_neg h3]
  have hnew : ∀ q, w.heap.size ≤ q → own' q ≠ none → q < w'.heap.size := fun q h1 h2 => by
    subst hown; simp only at h2; rw [if_neg (by omega)] at h2
    by_cases c : q < w'.heap.size
    · exact c
    · rw [if_neg c] at h2; simp at h2
  have hTne : ∀ k, (R.pt p).ownBlock = some k → ¬ swapF R be p k := fun q hq hf => by
    rcases hf with (hf | hf) | hf | hf
    · have := h.machT q hf; rw [hx.todoT q hq] at this; simp at this
    · subst hf; exact own_blk_ne hx.todo hx.blk (by decide) hq
    · subst hf; exact own_blk_ne hx.todo h.eng (by decide) hq
    · exact own_type_ne hx.todo h.vers (by decide) hq hf
  have hAne : ∀ k, R.va.ownBlock = some k → ¬ swapF R be p k := fun q hq hf => by
    have ha := h.askedT q hq
    rcases hf with hf | hf | hf
    · rcases h.turnT hp q hf with e | e <;> rw [ha] at e <;> simp at e
    · subst hf; exact own_blk_ne h.asked h.eng (by decide) hq
    · exact own_type_ne h.asked h.vers (by decide) hq hf
  have key := h.gen hp k0 hT (h.vp_ne hp) own' ho hnew E.annv rootv steps hM x (R.bef p) (R.pt p)
    ⟨hold hx.tag, hB, by rw [hxt]; exact own_keeps hx.todo k0 hTne, fun q hq => hold (hx.todoT q hq)⟩ R.va vv hE E.asked (own_keeps h.asked k0 hAne) (fun q hq => hold (h.askedT q hq))
    (E.vers ++ [(E.ver (E.procs p).seen).all E.ask (E.procs p).todo]) (fun i => if i < E.vers.length then R.ver i else b) ?_ ?_ ?_
  · refine ⟨rfl, _, key, ho, k0.mono fun j hj => ?_⟩
    rcases hT j hj with e | e | e <;> rw [e] <;> simp
  · have e : (List.range (E.vers ++ [(E.ver (E.procs p).seen).all E.ask (E.procs p).todo]).length).map (fun i => ptrV (if i < E.vers.length then R.ver i else b)) = ((List.range E.vers.length).map fun i => ptrV (R.ver i)) ++ [ptrV b] := by
      simp only [List.length_append, List.length_singleton, List.range_succ, List.map_append, List.map_singleton, Nat.lt_irrefl, if_false]
      congr 1
      apply List.map_congr_left
      intro i hi
      rw [if_pos (by simpa using hi)]
    rw [e]
    simpa using hV
  · intro q hq
    rcases hvv with e | e
    · exact hold (h.versT q (e ▸ hq))
    · have h1 := e q hq
      have h2 := own_lt hV hq
      subst hown
      simp only
      rw [if_neg (by omega), if_pos h2, if_pos hq]
  · intro i hi
    simp only [List.length_append, List.length_singleton] at hi
    by_cases c : i < E.vers.length
    · left
      refine ⟨c, ?_, if_pos c⟩
      exact PS.ver_append _ c
    · right
      have hi' : i = E.vers.length := by omega
      subst hi'
      have e : (E.vers ++ [(E.ver (E.procs p).seen).all E.ask (E.procs p).todo]).getD E.vers.length noVer = (E.ver (E.procs p).seen).all E.ask (E.procs p).todo := by simp
      rw [e, if_neg c]
      obtain ⟨t0, vL0, vl0, vr0, vg0, hb0', ⟨hL0, tL0⟩, _⟩ := h.ver _ hs
      have ev0 : vL0 = v0 := by
        have := hb0'.cell 1
        rw [hv0] at this
        simpa using this.symm
      subst ev0
      refine ⟨himm b hb0 hNb.lt (own_blk_ne hV hNb (by decide)), vL, vl, vr, vg, hNb, ?_, ⟨hNl, fun q hq => himm q (hNl' q hq) (own_lt hNl hq) (own_type_ne hNl hV (by decide) hq)⟩, ⟨hNr, fun q hq => himm q (hNr' q hq) (own_lt hNr hq) (own_type_ne hNr hV (by decide) hq)⟩, hNg, fun q hq => himm q (hNg' q hq) (own_lt hNg hq) (own_type_ne hNg hV (by decide) hq)⟩
      rcases hNL with ⟨e1, e2⟩ | ⟨e1, e2⟩
      · rw [e1, e2]
        refine ⟨rd_keeps hL0 k0 (fun h0 q hq hf => ?_), fun h0 q hq => (tL0 h0 q hq).imp hold id⟩
        have hj := hT q hf
        rcases tL0 h0 q hq with g | g
        · rcases hj with c | c | c <;> rw [g] at c <;> simp at c
        · have := (h.fresh q (by rcases hj with c | c | c <;> rw [c] <;> simp)).1
          omega
      · exact ⟨own_rd e1, fun _ q hq => .inl (himm q (e2 q hq) (own_lt e1 hq) (own_type_ne e1 hV (by decide) hq))⟩
end
end Go.Proofs.Ytjfenjnnpikkdaa
/- Package psim: swap. -/
namespace Go.Proofs.Ytjfenjnnpikkdaa
set_option linter.unusedVariables false
set_option maxRecDepth 100000
set_option linter.unusedSimpArgs false
open Go.RowKit
open Go.Proofs.YtjfenjnnpikkdaaW.PrintLast

theorem infoPV : (Try.prog.info? 82).map (fun i => (i.zero, i.size, i.bytes)) = some (some (.pointer none), 1, 8) := by kernel_rfl
theorem tries_lt {a : Nat} (h : a + 1 < 2) : decide ((a : Int) + 1 < 2) = true := decide_eq_true (by omega)
theorem tries_ge {a : Nat} (h : ¬ a + 1 < 2) : decide ((a : Int) + 1 < 2) = false := decide_eq_false (by omega)
/-- What a swap asks. -/
structure SwapIn (n p : Nat) (E : PS) : Prop where
  seen : (E.procs p).seen < E.vers.length
  tries : (E.procs p).tries ≤ 1
  vers : E.vers.length ≤ 536870912
  todo : ∀ a ∈ (E.procs p).todo, a < E.asked.length ∧ (E.ask a).proc < n
  lenL : (E.ver (E.procs p).seen).st.L.length ≤ 300
  len : (E.ver (E.procs p).seen).log.length + (E.procs p).todo.length ≤ 1073741824
set_option maxRecDepth 100000 in
set_option maxHeartbeats 6400000 in
theorem ps_swap_lt {w : World} {base be n p : Nat} {R : PRef} {E : PS} (h : PRep w base be R n E) (hp : p < n) (hI : SwapIn n p E) (hlt :  (E.procs p).tries + 1 < 2) :
    Calls Try.prog 90 #[.pointer (some ⟨R.pa p, 0, none⟩)] w (PPost w base be R n (E.swap p) (.tuple #[.int .i64 0, .bool false])) := by
  have hx := h.proc p hp
  have hs := hI.seen
  have p0 : w.cell? ⟨R.pa p, 0, none⟩ = some (.pointer (some ⟨be, 0, none⟩)) := hx.blk.cell 0
  have p1 : w.cell? ⟨R.pa p, 1, none⟩ = some (.int .i64 p) := hx.blk.cell 1
  have p8 : w.cell? ⟨R.pa p, 8, none⟩ = some (.int .i64 (E.procs p).seen) := hx.blk.cell 8
  have p9 : w.cell? ⟨R.pa p, 9, none⟩ = some (R.pt p) := hx.blk.cell 9
  have e0 : w.cell? ⟨be, 0, none⟩ = some (.pointer (some ⟨R.bm, 0, none⟩)) := h.eng.cell 0
  have e2 : w.cell? ⟨be, 2, none⟩ = some (.int .i64 n) := h.eng.cell 2
  have e5 : w.cell? ⟨be, 5, none⟩ = some R.vv := h.eng.cell 5
  obtain ⟨gv, cv, evv, _⟩ := own_open h.vers (by omega)
  obtain ⟨t0, vL, vl, vr, vg, hvb, ⟨hvL, tvL⟩, ⟨hvl, tvl⟩, ⟨hvr, tvr⟩, hvg, tvg⟩ := h.ver _ hs
  obtain ⟨at_, ct, evt⟩ := own_shape hx.todo
  have v0 : w.cell? ⟨gv, (E.procs p).seen, none⟩ = some (.pointer (some ⟨R.ver (E.procs p).seen, 0, none⟩)) := by
    have hv := h.vers
    rw [evv] at hv
    rw [World.ownsRow.cellAt hv _ (by omega)]; simp [hs]
  have hWI : WithIn w n (R.ver (E.procs p).seen) be vL vl vr vg (R.pt p) R.va _ _ _ _ _ (E.ver (E.procs p).seen) E.asked (E.procs p).todo :=
    ⟨hvb, hvL, hI.lenL, hvl, hvr, hvg, hI.len, h.eng, h.asked, hx.todo, hI.todo, h.small⟩
  have hW := ps_with (w := w.drew) (x0 := ptrV R.bm) (x1 := .int .i64 0) (x2 := .int .i64 n) (x3 := R.vp) (x5 := R.vv) ⟨hWI.blk.drew, hWI.rdL.drew, hWI.lenL, hWI.ol, hWI.or, hWI.og, hWI.len, hWI.eng.drew, hWI.asked, hWI.tt, hWI.lt, hWI.small⟩
  have hc1 : w.cell? ⟨R.ver (E.procs p).seen, 1, none⟩ = some vL := hvb.cell 1
  have HW := Lib.hid hW
  have nP := h.nP hp
  have nE := h.nE
  have hsm := h.small
  have hbe := h.bne hp
  have hlp : R.pa p < w.drew.heap.size := hx.blk.lt
  have hle : be < w.drew.heap.size := h.eng.lt
  have hlv : gv < w.drew.heap.size := own_lt h.vers (by rw [evv]; rfl)
  have i1 : (0 : Int) ≤ ((E.procs p).seen : Int) := by omega
  have i2 : ((E.procs p).seen : Int) < (E.vers.length : Int) := by omega
  have b2 : decide (((E.procs p).tries : Int) + 1 < 2) = true := tries_lt hlt
  have hvlen := hI.vers
  have q2 : IntKind.i64.wrap (((E.vers.length : Int) + 1) - 1) = (E.vers.length : Int) := by rw [show ((E.vers.length : Int) + 1) - 1 = E.vers.length by omega]; exact IntWalk.i64_in _ (by omega)
  have eps : ({ E.procs p with tries := (E.procs p).tries + 1, ph := if (E.procs p).tries + 1 < 2 then .load else .finish } : Pr) = { E.procs p with tries := (E.procs p).tries + 1, ph := .load } := by rw [if_pos hlt]
  have q3 : IntKind.i64.wrap (E.vers.length : Int) = (E.vers.length : Int) := IntWalk.i64_in _ (by omega)
  have HEP := Lib.hid eps
  have HV := Lib.hid evv
  have HT := Lib.hid evt
  rw [evv] at e5
  rw [evt] at p9
  clear hW hlt eps evv evt hWI
  go_enter Try.func90, Try.ntmps90
  go_wp2_with fail
  refine start_ (n := 26) (S := fun w' => w'.cell? ⟨be, 5, none⟩ = some (.slice (some ⟨gv, 0, none⟩) E.vers.length cv) ∧ w'.cell? ⟨R.pa p, 8, none⟩ = some (.int .i64 (E.procs p).seen) ∧ w'.cell? ⟨gv, (E.procs p).seen, none⟩ = some (.pointer (some ⟨R.ver (E.procs p).seen, 0, none⟩)) ∧ w'.cell? ⟨R.pa p, 9, none⟩ = some (.slice at_ (E.procs p).todo.length ct)) (ds := [22, 25]) #[false, false, false, false, false, false, false, false, false, false, false, false, false, false, false, false, false, false, false, false, false, false, false, false, false, false] (by kernel_rfl) rfl rfl ⟨e5, p8, v0, p9⟩ (fun hHeld => ?_)
  refine pure_ (i := 0) (N := some 9) (v := ?_) (a' := ?_) #[true, false, false, false, false, false, false, false, false, false, false, false, false, false, false, false, false, false, false, false, false, false, false, false, false, false] rfl rfl (by kernel_rfl) (fun _ _ _ h => h) (Or.inl ⟨by rfl, ?_⟩) ?_ ?_
  rotate_left
  · intro w'
    go_simp
    with_reducible rfl
  rotate_left
  · simp only [Act.put, List.setIfInBounds_toArray, List.set_cons_zero, List.set_cons_succ, i64_w, i32_w]
    rfl
  refine pure_ (i := 1) (N := some 10) (v := ?_) (a' := ?_) #[true, true, false, false, false, false, false, false, false, false, false, false, false, false, false, false, false, false, false, false, false, false, false, false, false, false] rfl rfl (by kernel_rfl) (fun _ _ _ h => h) (Or.inl ⟨by rfl, ?_⟩) ?_ ?_
  rotate_left
  · intro w'
    go_simp
    with_reducible rfl
  rotate_left
  · simp only [Act.put, List.setIfInBounds_toArray, List.set_cons_zero, List.set_cons_succ, i64_w, i32_w]
    rfl
  refine pure_ (i := 2) (N := some 11) (v := ?_) (a' := ?_) #[true, true, true, false, false, false, false, false, false, false, false, false, false, false, false, false, false, false, false, false, false, false, false, false, false, false] rfl rfl (by kernel_rfl) (fun _ _ _ h => h) (Or.inl ⟨by rfl, ?_⟩) ?_ ?_
  rotate_left
  · intro w'
    go_simp
    with_reducible rfl
  rotate_left
  · simp only [Act.put, List.setIfInBounds_toArray, List.set_cons_zero, List.set_cons_succ, i64_w, i32_w]
    rfl
  refine pure_ (i := 3) (N := some 12) (v := ?_) (a' := ?_) #[true, true, true, true, false, false, false, false, false, false, false, false, false, false, false, false, false, false, false, false, false, false, false, false, false, false] rfl rfl (by kernel_rfl) (fun _ _ _ h => h) (Or.inl ⟨by rfl, ?_⟩) ?_ ?_
  rotate_left
  · intro w'
    go_simp
    with_reducible rfl
  rotate_left
  · simp only [Act.put, List.setIfInBounds_toArray, List.set_cons_zero, List.set_cons_succ, i64_w, i32_w]
    rfl
  refine pure_ (i := 5) (N := some 14) (v := ?_) (a' := ?_) #[true, true, true, true, false, true, false, false, false, false, false, false, false, false, false, false, false, false, false, false, false, false, false, false, false, false] rfl rfl (by kernel_rfl) (fun _ _ _ h => h) (Or.inl ⟨by rfl, ?_⟩) ?_ ?_
  rotate_left
  · intro w'
    go_simp
    with_reducible rfl
  rotate_left
  · simp only [Act.put, List.setIfInBounds_toArray, List.set_cons_zero, List.set_cons_succ, i64_w, i32_w]
    rfl
  refine pure_ (i := 6) (N := some 15) (v := ?_) (a' := ?_) #[true, true, true, true, false, true, true, false, false, false, false, false, false, false, false, false, false, false, false, false, false, false, false, false, false, false] rfl rfl (by kernel_rfl) (fun _ _ _ h => h) (Or.inl ⟨by rfl, ?_⟩) ?_ ?_
  rotate_left
  · intro w'
    go_simp
    with_reducible rfl
  rotate_left
  · simp only [Act.put, List.setIfInBounds_toArray, List.set_cons_zero, List.set_cons_succ, i64_w, i32_w]
    rfl
  refine pure_ (i := 7) (N := some 16) (v := ?_) (a' := ?_) #[true, true, true, true, false, true, true, true, false, false, false, false, false, false, false, false, false, false, false, false, false, false, false, false, false, false] rfl rfl (by kernel_rfl) (fun _ _ _ h => h) (Or.inl ⟨by rfl, ?_⟩) ?_ ?_
  rotate_left
  · intro w'
    go_simp
    with_reducible rfl
  rotate_left
  · simp only [Act.put, List.setIfInBounds_toArray, List.set_cons_zero, List.set_cons_succ, i64_w, i32_w]
    rfl
  refine pure_ (i := 9) (N := some 18) (v := ?_) (a' := ?_) #[true, true, true, true, false, true, true, true, false, true, false, false, false, false, false, false, false, false, false, false, false, false, false, false, false, false] rfl rfl (by kernel_rfl) (fun _ _ _ h => h) (Or.inl ⟨by rfl, ?_⟩) ?_ ?_
  rotate_left
  · intro w'
    go_simp
    with_reducible rfl
  rotate_left
  · simp only [Act.put, List.setIfInBounds_toArray, List.set_cons_zero, List.set_cons_succ, i64_w, i32_w]
    rfl
  refine pure_ (i := 10) (N := some 19) (v := ?_) (a' := ?_) #[true, true, true, true, false, true, true, true, false, true, true, false, false, false, false, false, false, false, false, false, false, false, false, false, false, false] rfl rfl (by kernel_rfl) (fun _ _ _ h => h) (Or.inl ⟨by rfl, ?_⟩) ?_ ?_
  rotate_left
  · intro w'
    go_simp
    with_reducible rfl
  rotate_left
  · simp only [Act.put, List.setIfInBounds_toArray, List.set_cons_zero, List.set_cons_succ, i64_w, i32_w]
    rfl
  refine pure_ (i := 11) (N := some 20) (v := ?_) (a' := ?_) #[true, true, true, true, false, true, true, true, false, true, true, true, false, false, false, false, false, false, false, false, false, false, false, false, false, false] rfl rfl (by kernel_rfl) (fun _ _ _ h => h) (Or.inl ⟨by rfl, ?_⟩) ?_ ?_
  rotate_left
  · intro w'
    go_simp
    with_reducible rfl
  rotate_left
  · simp only [Act.put, List.setIfInBounds_toArray, List.set_cons_zero, List.set_cons_succ, i64_w, i32_w]
    rfl
  refine pure_ (i := 15) (N := some 24) (v := ?_) (a' := ?_) #[true, true, true, true, false, true, true, true, false, true, true, true, false, false, false, true, false, false, false, false, false, false, false, false, false, false] rfl rfl (by kernel_rfl) (fun _ _ _ h => h) (Or.inl ⟨by rfl, ?_⟩) ?_ ?_
  rotate_left
  · intro w'
    go_simp
    with_reducible rfl
  rotate_left
  · simp only [Act.put, List.setIfInBounds_toArray, List.set_cons_zero, List.set_cons_succ, i64_w, i32_w]
    rfl
  refine pure_ (i := 16) (N := some 25) (v := ?_) (a' := ?_) #[true, true, true, true, false, true, true, true, false, true, true, true, false, false, false, true, true, false, false, false, false, false, false, false, false, false] rfl rfl (by kernel_rfl) (fun _ _ _ h => h) (Or.inl ⟨by rfl, ?_⟩) ?_ ?_
  rotate_left
  · intro w'
    go_simp
    with_reducible rfl
  rotate_left
  · simp only [Act.put, List.setIfInBounds_toArray, List.set_cons_zero, List.set_cons_succ, i64_w, i32_w]
    rfl
  refine pure_ (i := 17) (N := some 26) (v := ?_) (a' := ?_) #[true, true, true, true, false, true, true, true, false, true, true, true, false, false, false, true, true, true, false, false, false, false, false, false, false, false] rfl rfl (by kernel_rfl) (fun _ _ _ h => h) (Or.inl ⟨by rfl, ?_⟩) ?_ ?_
  rotate_left
  · intro w'
    go_simp
    with_reducible rfl
  rotate_left
  · simp only [Act.put, List.setIfInBounds_toArray, List.set_cons_zero, List.set_cons_succ, i64_w, i32_w]
    rfl
  refine pure_ (i := 18) (N := some 27) (v := ?_) (a' := ?_) #[true, true, true, true, false, true, true, true, false, true, true, true, false, false, false, true, true, true, true, false, false, false, false, false, false, false] rfl rfl (by kernel_rfl) (fun _ _ _ h => h) (Or.inl ⟨by rfl, ?_⟩) ?_ ?_
  rotate_left
  · intro w'
    go_simp
    with_reducible rfl
  rotate_left
  · simp only [Act.put, List.setIfInBounds_toArray, List.set_cons_zero, List.set_cons_succ, i64_w, i32_w]
    rfl
  refine take_ (i := 4) (N := some 13) (v := ?_) (a' := ?_) #[true, true, true, true, true, true, true, true, false, true, true, true, false, false, false, true, true, true, true, false, false, false, false, false, false, false] rfl rfl (by kernel_rfl) (fun _ _ _ h => h) (Or.inl ⟨by rfl, ?_⟩) hHeld ?_ ?_
  rotate_left
  · rintro w' ⟨s0, s1, s2, s3⟩
    go_simp
    with_reducible rfl
  rotate_left
  · simp only [Act.put, List.setIfInBounds_toArray, List.set_cons_zero, List.set_cons_succ, i64_w, i32_w]
    rfl
  refine take_ (i := 8) (N := some 17) (v := ?_) (a' := ?_) #[true, true, true, true, true, true, true, true, true, true, true, true, false, false, false, true, true, true, true, false, false, false, false, false, false, false] rfl rfl (by kernel_rfl) (fun _ _ _ h => h) (Or.inl ⟨by rfl, ?_⟩) hHeld ?_ ?_
  rotate_left
  · rintro w' ⟨s0, s1, s2, s3⟩
    go_simp
    with_reducible rfl
  rotate_left
  · simp only [Act.put, List.setIfInBounds_toArray, List.set_cons_zero, List.set_cons_succ, i64_w, i32_w]
    rfl
  refine take_ (i := 12) (N := some 21) (v := ?_) (a' := ?_) #[true, true, true, true, true, true, true, true, true, true, true, true, true, false, false, true, true, true, true, false, false, false, false, false, false, false] rfl rfl (by kernel_rfl) (fun _ _ _ h => h) (Or.inl ⟨by rfl, ?_⟩) hHeld ?_ ?_
  rotate_left
  · rintro w' ⟨s0, s1, s2, s3⟩
    go_simp
    with_reducible rfl
  rotate_left
  · simp only [Act.put, List.setIfInBounds_toArray, List.set_cons_zero, List.set_cons_succ, i64_w, i32_w]
    rfl
  refine pure_ (i := 13) (N := some 22) (v := ?_) (a' := ?_) #[true, true, true, true, true, true, true, true, true, true, true, true, true, true, false, true, true, true, true, false, false, false, false, false, false, false] rfl rfl (by kernel_rfl) (fun _ _ _ h => h) (Or.inl ⟨by rfl, ?_⟩) ?_ ?_
  rotate_left
  · intro w'
    go_simp
    with_reducible rfl
  rotate_left
  · simp only [Act.put, List.setIfInBounds_toArray, List.set_cons_zero, List.set_cons_succ, i64_w, i32_w]
    rfl
  refine take_ (i := 14) (N := some 23) (v := ?_) (a' := ?_) #[true, true, true, true, true, true, true, true, true, true, true, true, true, true, true, true, true, true, true, false, false, false, false, false, false, false] rfl rfl (by kernel_rfl) (fun _ _ _ h => h) (Or.inl ⟨by rfl, ?_⟩) hHeld ?_ ?_
  rotate_left
  · rintro w' ⟨s0, s1, s2, s3⟩
    go_simp
    with_reducible rfl
  rotate_left
  · simp only [Act.put, List.setIfInBounds_toArray, List.set_cons_zero, List.set_cons_succ, i64_w, i32_w]
    rfl
  refine take_ (i := 19) (N := some 28) (v := ?_) (a' := ?_) #[true, true, true, true, true, true, true, true, true, true, true, true, true, true, true, true, true, true, true, true, false, false, false, false, false, false] rfl rfl (by kernel_rfl) (fun _ _ _ h => h) (Or.inl ⟨by rfl, ?_⟩) hHeld ?_ ?_
  rotate_left
  · rintro w' ⟨s0, s1, s2, s3⟩
    go_simp
    with_reducible rfl
  rotate_left
  · simp only [Act.put, List.setIfInBounds_toArray, List.set_cons_zero, List.set_cons_succ, i64_w, i32_w]
    rfl
  refine one_ (i := 20) (N := some 29) #[true, true, true, true, true, true, true, true, true, true, true, true, true, true, true, true, true, true, true, true, true, false, false, false, false, false] rfl rfl (by kernel_rfl) (by decide) (fun K hK => ?_)
  refine goes_ Try.func93 (by kernel_rfl) rfl #[.pointer (some ⟨R.ver (E.procs p).seen, 0, none⟩), .pointer (some ⟨be, 0, none⟩), .slice at_ (E.procs p).todo.length ct] (by rfl) rfl rfl (by simp only [List.map_toArray, List.map_cons, List.map_nil]; rfl) ?_
  with_reducible refine ((by rw [← HT.out]; exact HW.out : Calls _ _ _ _ _)).mono ?_
  rintro e w3 ⟨b, vL3, vl3, vr3, vg3, rfl, hM3⟩
  refine ⟨_, rfl, ?_⟩
  try clear hHeld
  refine hK.out _ _ ⟨(hM3.bel.cell (p := ⟨be, 5, none⟩) hle).trans e5, (hM3.bel.cell (p := ⟨R.pa p, 8, none⟩) hlp).trans p8, (hM3.bel.cell (p := ⟨gv, (E.procs p).seen, none⟩) hlv).trans v0, (hM3.bel.cell (p := ⟨R.pa p, 9, none⟩) hlp).trans p9⟩ (fun hHeld => ?_)
  clear hK K
  refine norm_ (a' := ?_) ?_ ?_
  rotate_left
  · show Act.put _ (some 29) _ = _
    simp only [Act.put, List.setIfInBounds_toArray, List.set_cons_zero, List.set_cons_succ, i64_w, i32_w]
    rfl
  refine one_ (i := 21) (N := some 30) #[true, true, true, true, true, true, true, true, true, true, true, true, true, true, true, true, true, true, true, true, true, true, false, false, false, false] rfl rfl (by kernel_rfl) (by decide) (fun K hK => ?_)
  refine value_ (w1 := ?_) (v := ?_) (by rfl) rfl ?_ ?_
  rotate_left 2
  · go_simp
    constructor
    · rfl
    · rfl
  try clear hHeld
  refine hK.out _ _ ⟨Lib.cell?_alloc_some _ ((hM3.bel.cell (p := ⟨be, 5, none⟩) hle).trans e5), Lib.cell?_alloc_some _ ((hM3.bel.cell (p := ⟨R.pa p, 8, none⟩) hlp).trans p8), Lib.cell?_alloc_some _ ((hM3.bel.cell (p := ⟨gv, (E.procs p).seen, none⟩) hlv).trans v0), Lib.cell?_alloc_some _ ((hM3.bel.cell (p := ⟨R.pa p, 9, none⟩) hlp).trans p9)⟩ (fun hHeld => ?_)
  clear hK K
  refine norm_ (a' := ?_) ?_ ?_
  rotate_left
  · show Act.put _ (some 30) _ = _
    simp only [Act.put, List.setIfInBounds_toArray, List.set_cons_zero, List.set_cons_succ, i64_w, i32_w]
    rfl
  refine last_ (i := 22) (N := some 31) #[true, true, true, true, true, true, true, true, true, true, true, true, true, true, true, true, true, true, true, true, true, true, true, false, false, false] rfl rfl (by kernel_rfl) (by decide) (fun K hK => ?_)
  have hO3 : Own w3 82 1 R.vv E.vers.length ((List.range E.vers.length).map fun i => ptrV (R.ver i)) := own_keeps (w := w.drew) h.vers (Keeps.ofBelow (F := fun _ => False) hM3.bel) (fun _ _ h => h)
  refine append_own_ rfl rfl _ _ 74 rfl 82 (.pointer none) 1 8 Try.underlying74 infoPV rfl (by decide) (.slice (some ⟨gv, 0, none⟩) E.vers.length cv) E.vers.length ((List.range E.vers.length).map fun i => ptrV (R.ver i)) rfl (by rw [← HV.out]; exact hO3.alloc _) ⟨w3.heap.size, 0, none⟩ 1 1 [.pointer (some ⟨b, 0, none⟩)] rfl rfl (cells_new w3 [.pointer (some ⟨b, 0, none⟩)] 82) (by intro u hu; simp at hu; subst hu; rfl) (by omega) (by decide) ?_
  intro vv' w6 hown hgrow hat
  obtain ⟨a6, c6, evv6⟩ := own_shape hown
  subst evv6
  have hE3 : Blk w3 be _ _ := h.eng.drew.below hM3.bel hle
  have hB3 : Blk w3 (R.pa p) _ _ := hx.blk.drew.below hM3.bel hlp
  have hE6 : Blk w6 be _ _ := (hgrow.block be (by have := hE3.lt; simp; omega) (by rw [← HV.out]; exact fun e => own_blk_ne h.vers h.eng (by decide) e.symm)).trans (hE3.alloc _)
  have hB6 : Blk w6 (R.pa p) _ _ := (hgrow.block (R.pa p) (by have := hB3.lt; simp; omega) (by rw [← HV.out]; exact fun e => own_blk_ne h.vers hx.blk (by decide) e.symm)).trans (hB3.alloc _)
  have c65 := hE6.cell 5
  have f65 := hE6.frozen 5
  have HGR := Lib.hid hgrow
  have HOW := Lib.hid hown
  have HAT := Lib.hid hat
  clear hgrow hown hat
  try clear hHeld
  refine hK.out _ _ ?_
  clear hK K
  refine norm_ (a' := ?_) ?_ ?_
  rotate_left
  · show Act.put _ (some 31) _ = _
    simp only [Act.put, List.setIfInBounds_toArray, List.set_cons_zero, List.set_cons_succ, i64_w, i32_w]
    rfl
  refine pure_ (i := 23) (N := some 32) (v := ?_) (a' := ?_) #[true, true, true, true, true, true, true, true, true, true, true, true, true, true, true, true, true, true, true, true, true, true, true, true, false, false] rfl rfl (by kernel_rfl) (fun _ _ _ h => h) (Or.inl ⟨by rfl, ?_⟩) ?_ ?_
  rotate_left
  · intro w'
    go_simp
    with_reducible rfl
  rotate_left
  · simp only [Act.put, List.setIfInBounds_toArray, List.set_cons_zero, List.set_cons_succ, i64_w, i32_w]
    rfl
  refine pure_ (i := 24) (N := some 33) (v := ?_) (a' := ?_) #[true, true, true, true, true, true, true, true, true, true, true, true, true, true, true, true, true, true, true, true, true, true, true, true, true, false] rfl rfl (by kernel_rfl) (fun _ _ _ h => h) (Or.inl ⟨by rfl, ?_⟩) ?_ ?_
  rotate_left
  · intro w'
    go_simp
    with_reducible rfl
  rotate_left
  · simp only [Act.put, List.setIfInBounds_toArray, List.set_cons_zero, List.set_cons_succ, i64_w, i32_w]
    rfl
  refine last_ (i := 25) (N := none) #[true, true, true, true, true, true, true, true, true, true, true, true, true, true, true, true, true, true, true, true, true, true, true, true, true, true] rfl rfl (by kernel_rfl) (by decide) (fun K hK => ?_)
  refine skip_ (w1 := ?_) (by rfl) rfl ?_ ?_
  rotate_left
  · go_simp
    rfl
  try clear hHeld
  refine hK.out _ _ ?_
  clear hK K
  try clear hHeld
  refine done_ (by kernel_rfl) ?_
  go_wp2_with fail
  have hE7 := hE6.set 5 (.slice a6 (E.vers.length + 1) c6)
  have hB7 := hB6.other (a := ⟨be, 5, none⟩) (Ne.symm hbe) (.slice a6 (E.vers.length + 1) c6)
  have k36 : Keeps (fun k => R.vv.ownBlock = some k) w3 w6 := ((Keeps.refl _ w3).alloc _).grown HGR.out (fun k hk => .inl (by rw [HV.out]; exact hk))
  have hMm : Mach w6 R.bm R.vc R.vs ⟨cellsP n E, R.steps⟩ := (h.mach.drew.keeps (Keeps.ofBelow (F := fun _ => False) hM3.bel) (fun _ _ h => h)).keeps k36 (fun k hk e => by have := h.machT k hk; rw [h.versT k e] at this; simp at this)
  have hMm7 := hMm.other (a := ⟨be, 5, none⟩) nE (.slice a6 (E.vers.length + 1) c6)
  have K37 : Keeps (swapF R be p) w3 _ := (k36.mono fun k hk => .inr (.inr hk)).set be 5 (.inl (.inr (.inl rfl))) (.slice a6 (E.vers.length + 1) c6)
  have hV7 := own_set HOW.out hE6 (by decide) 5 (.slice a6 (E.vers.length + 1) c6)
  have hV7' : Fresh w.heap.size (.slice a6 (E.vers.length + 1) c6) ∨ (Value.slice a6 (E.vers.length + 1) c6).ownBlock = R.vv.ownBlock := by
    rcases HAT.out with e | e
    · exact .inr (by rw [HV.out]; exact e)
    · refine .inl fun k hk => ?_
      rw [e] at hk
      injection hk with hk
      have := hM3.bel.size
      have : w.drew.heap.size = w.heap.size := rfl
      simp at hk
      omega
  have HN := Lib.hid (VMid.nver hM3 (hvL.drew))
  have HBEL := Lib.hid hM3.bel
  clear hE6 hB6 c65 f65 HGR HOW HAT k36 hMm hE3 hB3 hO3 hM3
  generalize w6.setCell ⟨be, 5, none⟩ (.slice a6 (E.vers.length + 1) c6) = w7 at *
  have d0 : w7.cell? ⟨be, 0, none⟩ = some (.pointer (some ⟨R.bm, 0, none⟩)) := hE7.cell 0
  have d2 : w7.cell? ⟨be, 2, none⟩ = some (.int .i64 n) := hE7.cell 2
  have d5 : w7.cell? ⟨be, 5, none⟩ = some (.slice a6 (E.vers.length + 1) c6) := hE7.cell 5
  have c1 : w7.cell? ⟨R.pa p, 1, none⟩ = some (.int .i64 p) := hB7.cell 1
  have c8 : w7.cell? ⟨R.pa p, 8, none⟩ = some (.int .i64 (E.procs p).seen) := hB7.cell 8
  clear p0 p1 p8 p9 e0 e2 e5 v0
  refine start_ (n := 23) (S := fun w' => w'.cell? ⟨be, 0, none⟩ = some (.pointer (some ⟨R.bm, 0, none⟩)) ∧ w'.cell? ⟨R.pa p, 1, none⟩ = some (.int .i64 p) ∧ w'.cell? ⟨be, 2, none⟩ = some (.int .i64 n) ∧ w'.cell? ⟨R.pa p, 8, none⟩ = some (.int .i64 (E.procs p).seen) ∧ w'.cell? ⟨be, 5, none⟩ = some (.slice a6 (E.vers.length + 1) c6)) (ds := []) #[false, false, false, false, false, false, false, false, false, false, false, false, false, false, false, false, false, false, false, false, false, false, false] (by kernel_rfl) rfl rfl ⟨d0, c1, d2, c8, d5⟩ (fun hHeld => ?_)
  refine pure_ (i := 0) (N := some 34) (v := ?_) (a' := ?_) #[true, false, false, false, false, false, false, false, false, false, false, false, false, false, false, false, false, false, false, false, false, false, false] rfl rfl (by kernel_rfl) (fun _ _ _ h => h) (Or.inl ⟨by rfl, ?_⟩) ?_ ?_
  rotate_left
  · intro w'
    go_simp
    with_reducible rfl
  rotate_left
  · simp only [Act.put, List.setIfInBounds_toArray, List.set_cons_zero, List.set_cons_succ, i64_w, i32_w]
    rfl
  refine pure_ (i := 1) (N := some 35) (v := ?_) (a' := ?_) #[true, true, false, false, false, false, false, false, false, false, false, false, false, false, false, false, false, false, false, false, false, false, false] rfl rfl (by kernel_rfl) (fun _ _ _ h => h) (Or.inl ⟨by rfl, ?_⟩) ?_ ?_
  rotate_left
  · intro w'
    go_simp
    with_reducible rfl
  rotate_left
  · simp only [Act.put, List.setIfInBounds_toArray, List.set_cons_zero, List.set_cons_succ, i64_w, i32_w]
    rfl
  refine pure_ (i := 2) (N := some 36) (v := ?_) (a' := ?_) #[true, true, true, false, false, false, false, false, false, false, false, false, false, false, false, false, false, false, false, false, false, false, false] rfl rfl (by kernel_rfl) (fun _ _ _ h => h) (Or.inl ⟨by rfl, ?_⟩) ?_ ?_
  rotate_left
  · intro w'
    go_simp
    with_reducible rfl
  rotate_left
  · simp only [Act.put, List.setIfInBounds_toArray, List.set_cons_zero, List.set_cons_succ, i64_w, i32_w]
    rfl
  refine pure_ (i := 4) (N := some 38) (v := ?_) (a' := ?_) #[true, true, true, false, true, false, false, false, false, false, false, false, false, false, false, false, false, false, false, false, false, false, false] rfl rfl (by kernel_rfl) (fun _ _ _ h => h) (Or.inl ⟨by rfl, ?_⟩) ?_ ?_
  rotate_left
  · intro w'
    go_simp
    with_reducible rfl
  rotate_left
  · simp only [Act.put, List.setIfInBounds_toArray, List.set_cons_zero, List.set_cons_succ, i64_w, i32_w]
    rfl
  refine pure_ (i := 5) (N := some 39) (v := ?_) (a' := ?_) #[true, true, true, false, true, true, false, false, false, false, false, false, false, false, false, false, false, false, false, false, false, false, false] rfl rfl (by kernel_rfl) (fun _ _ _ h => h) (Or.inl ⟨by rfl, ?_⟩) ?_ ?_
  rotate_left
  · intro w'
    go_simp
    with_reducible rfl
  rotate_left
  · simp only [Act.put, List.setIfInBounds_toArray, List.set_cons_zero, List.set_cons_succ, i64_w, i32_w]
    rfl
  refine pure_ (i := 6) (N := some 40) (v := ?_) (a' := ?_) #[true, true, true, false, true, true, true, false, false, false, false, false, false, false, false, false, false, false, false, false, false, false, false] rfl rfl (by kernel_rfl) (fun _ _ _ h => h) (Or.inl ⟨by rfl, ?_⟩) ?_ ?_
  rotate_left
  · intro w'
    go_simp
    with_reducible rfl
  rotate_left
  · simp only [Act.put, List.setIfInBounds_toArray, List.set_cons_zero, List.set_cons_succ, i64_w, i32_w]
    rfl
  refine pure_ (i := 8) (N := some 42) (v := ?_) (a' := ?_) #[true, true, true, false, true, true, true, false, true, false, false, false, false, false, false, false, false, false, false, false, false, false, false] rfl rfl (by kernel_rfl) (fun _ _ _ h => h) (Or.inl ⟨by rfl, ?_⟩) ?_ ?_
  rotate_left
  · intro w'
    go_simp
    with_reducible rfl
  rotate_left
  · simp only [Act.put, List.setIfInBounds_toArray, List.set_cons_zero, List.set_cons_succ, i64_w, i32_w]
    rfl
  refine pure_ (i := 9) (N := some 43) (v := ?_) (a' := ?_) #[true, true, true, false, true, true, true, false, true, true, false, false, false, false, false, false, false, false, false, false, false, false, false] rfl rfl (by kernel_rfl) (fun _ _ _ h => h) (Or.inl ⟨by rfl, ?_⟩) ?_ ?_
  rotate_left
  · intro w'
    go_simp
    with_reducible rfl
  rotate_left
  · simp only [Act.put, List.setIfInBounds_toArray, List.set_cons_zero, List.set_cons_succ, i64_w, i32_w]
    rfl
  refine pure_ (i := 10) (N := some 44) (v := ?_) (a' := ?_) #[true, true, true, false, true, true, true, false, true, true, true, false, false, false, false, false, false, false, false, false, false, false, false] rfl rfl (by kernel_rfl) (fun _ _ _ h => h) (Or.inl ⟨by rfl, ?_⟩) ?_ ?_
  rotate_left
  · intro w'
    go_simp
    with_reducible rfl
  rotate_left
  · simp only [Act.put, List.setIfInBounds_toArray, List.set_cons_zero, List.set_cons_succ, i64_w, i32_w]
    rfl
  refine pure_ (i := 12) (N := some 46) (v := ?_) (a' := ?_) #[true, true, true, false, true, true, true, false, true, true, true, false, true, false, false, false, false, false, false, false, false, false, false] rfl rfl (by kernel_rfl) (fun _ _ _ h => h) (Or.inl ⟨by rfl, ?_⟩) ?_ ?_
  rotate_left
  · intro w'
    go_simp
    with_reducible rfl
  rotate_left
  · simp only [Act.put, List.setIfInBounds_toArray, List.set_cons_zero, List.set_cons_succ, i64_w, i32_w]
    rfl
  refine pure_ (i := 13) (N := some 47) (v := ?_) (a' := ?_) #[true, true, true, false, true, true, true, false, true, true, true, false, true, true, false, false, false, false, false, false, false, false, false] rfl rfl (by kernel_rfl) (fun _ _ _ h => h) (Or.inl ⟨by rfl, ?_⟩) ?_ ?_
  rotate_left
  · intro w'
    go_simp
    with_reducible rfl
  rotate_left
  · simp only [Act.put, List.setIfInBounds_toArray, List.set_cons_zero, List.set_cons_succ, i64_w, i32_w]
    rfl
  refine pure_ (i := 14) (N := some 48) (v := ?_) (a' := ?_) #[true, true, true, false, true, true, true, false, true, true, true, false, true, true, true, false, false, false, false, false, false, false, false] rfl rfl (by kernel_rfl) (fun _ _ _ h => h) (Or.inl ⟨by rfl, ?_⟩) ?_ ?_
  rotate_left
  · intro w'
    go_simp
    with_reducible rfl
  rotate_left
  · simp only [Act.put, List.setIfInBounds_toArray, List.set_cons_zero, List.set_cons_succ, i64_w, i32_w]
    rfl
  refine pure_ (i := 16) (N := some 50) (v := ?_) (a' := ?_) #[true, true, true, false, true, true, true, false, true, true, true, false, true, true, true, false, true, false, false, false, false, false, false] rfl rfl (by kernel_rfl) (fun _ _ _ h => h) (Or.inl ⟨by rfl, ?_⟩) ?_ ?_
  rotate_left
  · intro w'
    go_simp
    with_reducible rfl
  rotate_left
  · simp only [Act.put, List.setIfInBounds_toArray, List.set_cons_zero, List.set_cons_succ, i64_w, i32_w]
    rfl
  refine pure_ (i := 17) (N := some 51) (v := ?_) (a' := ?_) #[true, true, true, false, true, true, true, false, true, true, true, false, true, true, true, false, true, true, false, false, false, false, false] rfl rfl (by kernel_rfl) (fun _ _ _ h => h) (Or.inl ⟨by rfl, ?_⟩) ?_ ?_
  rotate_left
  · intro w'
    go_simp
    with_reducible rfl
  rotate_left
  · simp only [Act.put, List.setIfInBounds_toArray, List.set_cons_zero, List.set_cons_succ, i64_w, i32_w]
    rfl
  refine pure_ (i := 18) (N := some 52) (v := ?_) (a' := ?_) #[true, true, true, false, true, true, true, false, true, true, true, false, true, true, true, false, true, true, true, false, false, false, false] rfl rfl (by kernel_rfl) (fun _ _ _ h => h) (Or.inl ⟨by rfl, ?_⟩) ?_ ?_
  rotate_left
  · intro w'
    go_simp
    with_reducible rfl
  rotate_left
  · simp only [Act.put, List.setIfInBounds_toArray, List.set_cons_zero, List.set_cons_succ, i64_w, i32_w]
    rfl
  refine take_ (i := 3) (N := some 37) (v := ?_) (a' := ?_) #[true, true, true, true, true, true, true, false, true, true, true, false, true, true, true, false, true, true, true, false, false, false, false] rfl rfl (by kernel_rfl) (fun _ _ _ h => h) (Or.inl ⟨by rfl, ?_⟩) hHeld ?_ ?_
  rotate_left
  · rintro w' ⟨s0, s1, s2, s3, s4⟩
    go_simp
    with_reducible rfl
  rotate_left
  · simp only [Act.put, List.setIfInBounds_toArray, List.set_cons_zero, List.set_cons_succ, i64_w, i32_w]
    rfl
  refine take_ (i := 7) (N := some 41) (v := ?_) (a' := ?_) #[true, true, true, true, true, true, true, true, true, true, true, false, true, true, true, false, true, true, true, false, false, false, false] rfl rfl (by kernel_rfl) (fun _ _ _ h => h) (Or.inl ⟨by rfl, ?_⟩) hHeld ?_ ?_
  rotate_left
  · rintro w' ⟨s0, s1, s2, s3, s4⟩
    go_simp
    with_reducible rfl
  rotate_left
  · simp only [Act.put, List.setIfInBounds_toArray, List.set_cons_zero, List.set_cons_succ, i64_w, i32_w]
    rfl
  refine take_ (i := 11) (N := some 45) (v := ?_) (a' := ?_) #[true, true, true, true, true, true, true, true, true, true, true, true, true, true, true, false, true, true, true, false, false, false, false] rfl rfl (by kernel_rfl) (fun _ _ _ h => h) (Or.inl ⟨by rfl, ?_⟩) hHeld ?_ ?_
  rotate_left
  · rintro w' ⟨s0, s1, s2, s3, s4⟩
    go_simp
    with_reducible rfl
  rotate_left
  · simp only [Act.put, List.setIfInBounds_toArray, List.set_cons_zero, List.set_cons_succ, i64_w, i32_w]
    rfl
  refine take_ (i := 15) (N := some 49) (v := ?_) (a' := ?_) #[true, true, true, true, true, true, true, true, true, true, true, true, true, true, true, true, true, true, true, false, false, false, false] rfl rfl (by kernel_rfl) (fun _ _ _ h => h) (Or.inl ⟨by rfl, ?_⟩) hHeld ?_ ?_
  rotate_left
  · rintro w' ⟨s0, s1, s2, s3, s4⟩
    go_simp
    with_reducible rfl
  rotate_left
  · simp only [Act.put, List.setIfInBounds_toArray, List.set_cons_zero, List.set_cons_succ, i64_w, i32_w]
    rfl
  refine take_ (i := 19) (N := some 53) (v := ?_) (a' := ?_) #[true, true, true, true, true, true, true, true, true, true, true, true, true, true, true, true, true, true, true, true, false, false, false] rfl rfl (by kernel_rfl) (fun _ _ _ h => h) (Or.inl ⟨by rfl, ?_⟩) hHeld ?_ ?_
  rotate_left
  · rintro w' ⟨s0, s1, s2, s3, s4⟩
    go_simp
    with_reducible rfl
  rotate_left
  · simp only [Act.put, List.setIfInBounds_toArray, List.set_cons_zero, List.set_cons_succ, i64_w, i32_w]
    rfl
  refine pure_ (i := 20) (N := some 54) (v := ?_) (a' := ?_) #[true, true, true, true, true, true, true, true, true, true, true, true, true, true, true, true, true, true, true, true, true, false, false] rfl rfl (by kernel_rfl) (fun _ _ _ h => h) (Or.inl ⟨by rfl, ?_⟩) ?_ ?_
  rotate_left
  · intro w'
    go_simp
    with_reducible rfl
  rotate_left
  · simp only [Act.put, List.setIfInBounds_toArray, List.set_cons_zero, List.set_cons_succ, i64_w, i32_w]
    rfl
  refine pure_ (i := 21) (N := some 55) (v := ?_) (a' := ?_) #[true, true, true, true, true, true, true, true, true, true, true, true, true, true, true, true, true, true, true, true, true, true, false] rfl rfl (by kernel_rfl) (fun _ _ _ h => h) (Or.inl ⟨by rfl, ?_⟩) ?_ ?_
  rotate_left
  · intro w'
    go_simp
    with_reducible rfl
  rotate_left
  · simp only [Act.put, List.setIfInBounds_toArray, List.set_cons_zero, List.set_cons_succ, i64_w, i32_w]
    rfl
  refine one_ (i := 22) (N := some 56) #[true, true, true, true, true, true, true, true, true, true, true, true, true, true, true, true, true, true, true, true, true, true, true] rfl rfl (by kernel_rfl) (by decide) (fun K hK => ?_)
  refine goes_ Try.func94 (by kernel_rfl) rfl #[.pointer (some ⟨R.bm, 0, none⟩), .int .i64 p, .int .i64 n, .int .i64 (E.procs p).seen, .int .i64 E.vers.length] (by rfl) rfl rfl (by simp only [List.map_toArray, List.map_cons, List.map_nil]; rfl) ?_
  with_reducible refine (sw_root hMm7.drew _ _ _).mono ?_
  rintro e w8 ⟨⟨sb, rfl⟩, ⟨s8, hM8⟩, hK8⟩
  refine ⟨_, rfl, ?_⟩
  try clear hHeld
  refine hK.out _ _ ⟨hK8.cellSome nE d0, hK8.cellSome nP c1, hK8.cellSome nE d2, hK8.cellSome nP c8, hK8.cellSome nE d5⟩ (fun hHeld => ?_)
  clear hK K
  refine norm_ (a' := ?_) ?_ ?_
  rotate_left
  · show Act.put _ (some 56) _ = _
    simp only [Act.put, List.setIfInBounds_toArray, List.set_cons_zero, List.set_cons_succ, i64_w, i32_w]
    rfl
  try clear hHeld
  refine done_ (by kernel_rfl) ?_
  clear d0 d2 d5 c1 c8
  have hE8 := hE7.drew.keeps hK8 nE
  have hB8 := hB7.drew.keeps hK8 nP
  have hV8 := own_keeps (own_drew hV7) hK8 (fun q hq hf => by
    have hq' := h.machT q hf
    rcases hV7' with g | g
    · have := g q hq; have := (h.fresh q (by rw [hq']; simp)).2; omega
    · rw [g] at hq; rw [h.versT q hq] at hq'; simp at hq')
  have K38 := K37.drew.trans' (hK8.mono fun k hk => .inl (.inl hk))
  clear hE7 hB7 hV7 K37 hK8 hMm7
  have c6 : w8.cell? ⟨R.pa p, 6, none⟩ = some (.int .i64 (E.procs p).tries) := hB8.cell 6
  have f6 := hB8.frozen 6
  have hB9 := hB8.set 6 (.int .i64 (((E.procs p).tries : Int) + 1))
  have c5 := hB9.cell 5
  have f5 := hB9.frozen 5
  have HC := Lib.hid c5
  have HM8 := Lib.hid hM8
  have hm := hmf
  have htb : ((E.procs p).tries : Int) ≤ 1000000 := by have := hI.tries; omega
  clear c5 hM8
  go_wp2_with (go_at_call 69; refine (ps_goes _ _ _ _ _ _ HC.out f5).mono ?_; rintro e w9 ⟨rfl, rfl⟩)
  go_ret2
  have hfin := h.swap_fin hp hs (x := { E.procs p with tries := (E.procs p).tries + 1, ph := .load }) (rootv := if E.rootv = (E.procs p).seen then E.vers.length else E.rootv) (steps := s8) ((Below.refl _ _).drew.trans HBEL.out) hc1 HN.out ((K38.set _ 6 (.inl (.inl (.inr rfl))) (.int .i64 (((E.procs p).tries : Int) + 1))).set _ 5 (.inl (.inl (.inr rfl))) (bound 70 (R.pa p)))
    ((HM8.out.other nP _).other nP _) rfl (hB9.set 5 _) ((hE8.other hbe _).other hbe _) (own_set (own_set hV8 hB8 (by decide) _ _) hB9 (by decide) _ _) hV7'.symm (.tuple #[.int .i64 0, .bool false])
  rw [← HEP.out] at hfin
  exact hfin
set_option maxRecDepth 100000 in
set_option maxHeartbeats 6400000 in
theorem ps_swap_ge {w : World} {base be n p : Nat} {R : PRef} {E : PS} (h : PRep w base be R n E) (hp : p < n) (hI : SwapIn n p E) (hlt : ¬ (E.procs p).tries + 1 < 2) :
    Calls Try.prog 90 #[.pointer (some ⟨R.pa p, 0, none⟩)] w (PPost w base be R n (E.swap p) (.tuple #[.int .i64 0, .bool false])) := by
  have hx := h.proc p hp
  have hs := hI.seen
  have p0 : w.cell? ⟨R.pa p, 0, none⟩ = some (.pointer (some ⟨be, 0, none⟩)) := hx.blk.cell 0
  have p1 : w.cell? ⟨R.pa p, 1, none⟩ = some (.int .i64 p) := hx.blk.cell 1
  have p8 : w.cell? ⟨R.pa p, 8, none⟩ = some (.int .i64 (E.procs p).seen) := hx.blk.cell 8
  have p9 : w.cell? ⟨R.pa p, 9, none⟩ = some (R.pt p) := hx.blk.cell 9
  have e0 : w.cell? ⟨be, 0, none⟩ = some (.pointer (some ⟨R.bm, 0, none⟩)) := h.eng.cell 0
  have e2 : w.cell? ⟨be, 2, none⟩ = some (.int .i64 n) := h.eng.cell 2
  have e5 : w.cell? ⟨be, 5, none⟩ = some R.vv := h.eng.cell 5
  obtain ⟨gv, cv, evv, _⟩ := own_open h.vers (by omega)
  obtain ⟨t0, vL, vl, vr, vg, hvb, ⟨hvL, tvL⟩, ⟨hvl, tvl⟩, ⟨hvr, tvr⟩, hvg, tvg⟩ := h.ver _ hs
  obtain ⟨at_, ct, evt⟩ := own_shape hx.todo
  have v0 : w.cell? ⟨gv, (E.procs p).seen, none⟩ = some (.pointer (some ⟨R.ver (E.procs p).seen, 0, none⟩)) := by
    have hv := h.vers
    rw [evv] at hv
    rw [World.ownsRow.cellAt hv _ (by omega)]; simp [hs]
  have hWI : WithIn w n (R.ver (E.procs p).seen) be vL vl vr vg (R.pt p) R.va _ _ _ _ _ (E.ver (E.procs p).seen) E.asked (E.procs p).todo :=
    ⟨hvb, hvL, hI.lenL, hvl, hvr, hvg, hI.len, h.eng, h.asked, hx.todo, hI.todo, h.small⟩
  have hW := ps_with (w := w.drew) (x0 := ptrV R.bm) (x1 := .int .i64 0) (x2 := .int .i64 n) (x3 := R.vp) (x5 := R.vv) ⟨hWI.blk.drew, hWI.rdL.drew, hWI.lenL, hWI.ol, hWI.or, hWI.og, hWI.len, hWI.eng.drew, hWI.asked, hWI.tt, hWI.lt, hWI.small⟩
  have hc1 : w.cell? ⟨R.ver (E.procs p).seen, 1, none⟩ = some vL := hvb.cell 1
  have HW := Lib.hid hW
  have nP := h.nP hp
  have nE := h.nE
  have hsm := h.small
  have hbe := h.bne hp
  have hlp : R.pa p < w.drew.heap.size := hx.blk.lt
  have hle : be < w.drew.heap.size := h.eng.lt
  have hlv : gv < w.drew.heap.size := own_lt h.vers (by rw [evv]; rfl)
  have i1 : (0 : Int) ≤ ((E.procs p).seen : Int) := by omega
  have i2 : ((E.procs p).seen : Int) < (E.vers.length : Int) := by omega
  have b2 : decide (((E.procs p).tries : Int) + 1 < 2) = false := tries_ge hlt
  have hvlen := hI.vers
  have q2 : IntKind.i64.wrap (((E.vers.length : Int) + 1) - 1) = (E.vers.length : Int) := by rw [show ((E.vers.length : Int) + 1) - 1 = E.vers.length by omega]; exact IntWalk.i64_in _ (by omega)
  have eps : ({ E.procs p with tries := (E.procs p).tries + 1, ph := if (E.procs p).tries + 1 < 2 then .load else .finish } : Pr) = { E.procs p with tries := (E.procs p).tries + 1, ph := .finish } := by rw [if_neg hlt]
  have q3 : IntKind.i64.wrap (E.vers.length : Int) = (E.vers.length : Int) := IntWalk.i64_in _ (by omega)
  have HEP := Lib.hid eps
  have HV := Lib.hid evv
  have HT := Lib.hid evt
  rw [evv] at e5
  rw [evt] at p9
  clear hW hlt eps evv evt hWI
  go_enter Try.func90, Try.ntmps90
  go_wp2_with fail
  refine start_ (n := 26) (S := fun w' => w'.cell? ⟨be, 5, none⟩ = some (.slice (some ⟨gv, 0, none⟩) E.vers.length cv) ∧ w'.cell? ⟨R.pa p, 8, none⟩ = some (.int .i64 (E.procs p).seen) ∧ w'.cell? ⟨gv, (E.procs p).seen, none⟩ = some (.pointer (some ⟨R.ver (E.procs p).seen, 0, none⟩)) ∧ w'.cell? ⟨R.pa p, 9, none⟩ = some (.slice at_ (E.procs p).todo.length ct)) (ds := [22, 25]) #[false, false, false, false, false, false, false, false, false, false, false, false, false, false, false, false, false, false, false, false, false, false, false, false, false, false] (by kernel_rfl) rfl rfl ⟨e5, p8, v0, p9⟩ (fun hHeld => ?_)
  refine pure_ (i := 0) (N := some 9) (v := ?_) (a' := ?_) #[true, false, false, false, false, false, false, false, false, false, false, false, false, false, false, false, false, false, false, false, false, false, false, false, false, false] rfl rfl (by kernel_rfl) (fun _ _ _ h => h) (Or.inl ⟨by rfl, ?_⟩) ?_ ?_
  rotate_left
  · intro w'
    go_simp
    with_reducible rfl
  rotate_left
  · simp only [Act.put, List.setIfInBounds_toArray, List.set_cons_zero, List.set_cons_succ, i64_w, i32_w]
    rfl
  refine pure_ (i := 1) (N := some 10) (v := ?_) (a' := ?_) #[true, true, false, false, false, false, false, false, false, false, false, false, false, false, false, false, false, false, false, false, false, false, false, false, false, false] rfl rfl (by kernel_rfl) (fun _ _ _ h => h) (Or.inl ⟨by rfl, ?_⟩) ?_ ?_
  rotate_left
  · intro w'
    go_simp
    with_reducible rfl
  rotate_left
  · simp only [Act.put, List.setIfInBounds_toArray, List.set_cons_zero, List.set_cons_succ, i64_w, i32_w]
    rfl
  refine pure_ (i := 2) (N := some 11) (v := ?_) (a' := ?_) #[true, true, true, false, false, false, false, false, false, false, false, false, false, false, false, false, false, false, false, false, false, false, false, false, false, false] rfl rfl (by kernel_rfl) (fun _ _ _ h => h) (Or.inl ⟨by rfl, ?_⟩) ?_ ?_
  rotate_left
  · intro w'
    go_simp
    with_reducible rfl
  rotate_left
  · simp only [Act.put, List.setIfInBounds_toArray, List.set_cons_zero, List.set_cons_succ, i64_w, i32_w]
    rfl
  refine pure_ (i := 3) (N := some 12) (v := ?_) (a' := ?_) #[true, true, true, true, false, false, false, false, false, false, false, false, false, false, false, false, false, false, false, false, false, false, false, false, false, false] rfl rfl (by kernel_rfl) (fun _ _ _ h => h) (Or.inl ⟨by rfl, ?_⟩) ?_ ?_
  rotate_left
  · intro w'
    go_simp
    with_reducible rfl
  rotate_left
  · simp only [Act.put, List.setIfInBounds_toArray, List.set_cons_zero, List.set_cons_succ, i64_w, i32_w]
    rfl
  refine pure_ (i := 5) (N := some 14) (v := ?_) (a' := ?_) #[true, true, true, true, false, true, false, false, false, false, false, false, false, false, false, false, false, false, false, false, false, false, false, false, false, false] rfl rfl (by kernel_rfl) (fun _ _ _ h => h) (Or.inl ⟨by rfl, ?_⟩) ?_ ?_
  rotate_left
  · intro w'
    go_simp
    with_reducible rfl
  rotate_left
  · simp only [Act.put, List.setIfInBounds_toArray, List.set_cons_zero, List.set_cons_succ, i64_w, i32_w]
    rfl
  refine pure_ (i := 6) (N := some 15) (v := ?_) (a' := ?_) #[true, true, true, true, false, true, true, false, false, false, false, false, false, false, false, false, false, false, false, false, false, false, false, false, false, false] rfl rfl (by kernel_rfl) (fun _ _ _ h => h) (Or.inl ⟨by rfl, ?_⟩) ?_ ?_
  rotate_left
  · intro w'
    go_simp
    with_reducible rfl
  rotate_left
  · simp only [Act.put, List.setIfInBounds_toArray, List.set_cons_zero, List.set_cons_succ, i64_w, i32_w]
    rfl
  refine pure_ (i := 7) (N := some 16) (v := ?_) (a' := ?_) #[true, true, true, true, false, true, true, true, false, false, false, false, false, false, false, false, false, false, false, false, false, false, false, false, false, false] rfl rfl (by kernel_rfl) (fun _ _ _ h => h) (Or.inl ⟨by rfl, ?_⟩) ?_ ?_
  rotate_left
  · intro w'
    go_simp
    with_reducible rfl
  rotate_left
  · simp only [Act.put, List.setIfInBounds_toArray, List.set_cons_zero, List.set_cons_succ, i64_w, i32_w]
    rfl
  refine pure_ (i := 9) (N := some 18) (v := ?_) (a' := ?_) #[true, true, true, true, false, true, true, true, false, true, false, false, false, false, false, false, false, false, false, false, false, false, false, false, false, false] rfl rfl (by kernel_rfl) (fun _ _ _ h => h) (Or.inl ⟨by rfl, ?_⟩) ?_ ?_
  rotate_left
  · intro w'
    go_simp
    with_reducible rfl
  rotate_left
  · simp only [Act.put, List.setIfInBounds_toArray, List.set_cons_zero, List.set_cons_succ, i64_w, i32_w]
    rfl
  refine pure_ (i := 10) (N := some 19) (v := ?_) (a' := ?_) #[true, true, true, true, false, true, true, true, false, true, true, false, false, false, false, false, false, false, false, false, false, false, false, false, false, false] rfl rfl (by kernel_rfl) (fun _ _ _ h => h) (Or.inl ⟨by rfl, ?_⟩) ?_ ?_
  rotate_left
  · intro w'
    go_simp
    with_reducible rfl
  rotate_left
  · simp only [Act.put, List.setIfInBounds_toArray, List.set_cons_zero, List.set_cons_succ, i64_w, i32_w]
    rfl
  refine pure_ (i := 11) (N := some 20) (v := ?_) (a' := ?_) #[true, true, true, true, false, true, true, true, false, true, true, true, false, false, false, false, false, false, false, false, false, false, false, false, false, false] rfl rfl (by kernel_rfl) (fun _ _ _ h => h) (Or.inl ⟨by rfl, ?_⟩) ?_ ?_
  rotate_left
  · intro w'
    go_simp
    with_reducible rfl
  rotate_left
  · simp only [Act.put, List.setIfInBounds_toArray, List.set_cons_zero, List.set_cons_succ, i64_w, i32_w]
    rfl
  refine pure_ (i := 15) (N := some 24) (v := ?_) (a' := ?_) #[true, true, true, true, false, true, true, true, false, true, true, true, false, false, false, true, false, false, false, false, false, false, false, false, false, false] rfl rfl (by kernel_rfl) (fun _ _ _ h => h) (Or.inl ⟨by rfl, ?_⟩) ?_ ?_
  rotate_left
  · intro w'
    go_simp
    with_reducible rfl
  rotate_left
  · simp only [Act.put, List.setIfInBounds_toArray, List.set_cons_zero, List.set_cons_succ, i64_w, i32_w]
    rfl
  refine pure_ (i := 16) (N := some 25) (v := ?_) (a' := ?_) #[true, true, true, true, false, true, true, true, false, true, true, true, false, false, false, true, true, false, false, false, false, false, false, false, false, false] rfl rfl (by kernel_rfl) (fun _ _ _ h => h) (Or.inl ⟨by rfl, ?_⟩) ?_ ?_
  rotate_left
  · intro w'
    go_simp
    with_reducible rfl
  rotate_left
  · simp only [Act.put, List.setIfInBounds_toArray, List.set_cons_zero, List.set_cons_succ, i64_w, i32_w]
    rfl
  refine pure_ (i := 17) (N := some 26) (v := ?_) (a' := ?_) #[true, true, true, true, false, true, true, true, false, true, true, true, false, false, false, true, true, true, false, false, false, false, false, false, false, false] rfl rfl (by kernel_rfl) (fun _ _ _ h => h) (Or.inl ⟨by rfl, ?_⟩) ?_ ?_
  rotate_left
  · intro w'
    go_simp
    with_reducible rfl
  rotate_left
  · simp only [Act.put, List.setIfInBounds_toArray, List.set_cons_zero, List.set_cons_succ, i64_w, i32_w]
    rfl
  refine pure_ (i := 18) (N := some 27) (v := ?_) (a' := ?_) #[true, true, true, true, false, true, true, true, false, true, true, true, false, false, false, true, true, true, true, false, false, false, false, false, false, false] rfl rfl (by kernel_rfl) (fun _ _ _ h => h) (Or.inl ⟨by rfl, ?_⟩) ?_ ?_
  rotate_left
  · intro w'
    go_simp
    with_reducible rfl
  rotate_left
  · simp only [Act.put, List.setIfInBounds_toArray, List.set_cons_zero, List.set_cons_succ, i64_w, i32_w]
    rfl
  refine take_ (i := 4) (N := some 13) (v := ?_) (a' := ?_) #[true, true, true, true, true, true, true, true, false, true, true, true, false, false, false, true, true, true, true, false, false, false, false, false, false, false] rfl rfl (by kernel_rfl) (fun _ _ _ h => h) (Or.inl ⟨by rfl, ?_⟩) hHeld ?_ ?_
  rotate_left
  · rintro w' ⟨s0, s1, s2, s3⟩
    go_simp
    with_reducible rfl
  rotate_left
  · simp only [Act.put, List.setIfInBounds_toArray, List.set_cons_zero, List.set_cons_succ, i64_w, i32_w]
    rfl
  refine take_ (i := 8) (N := some 17) (v := ?_) (a' := ?_) #[true, true, true, true, true, true, true, true, true, true, true, true, false, false, false, true, true, true, true, false, false, false, false, false, false, false] rfl rfl (by kernel_rfl) (fun _ _ _ h => h) (Or.inl ⟨by rfl, ?_⟩) hHeld ?_ ?_
  rotate_left
  · rintro w' ⟨s0, s1, s2, s3⟩
    go_simp
    with_reducible rfl
  rotate_left
  · simp only [Act.put, List.setIfInBounds_toArray, List.set_cons_zero, List.set_cons_succ, i64_w, i32_w]
    rfl
  refine take_ (i := 12) (N := some 21) (v := ?_) (a' := ?_) #[true, true, true, true, true, true, true, true, true, true, true, true, true, false, false, true, true, true, true, false, false, false, false, false, false, false] rfl rfl (by kernel_rfl) (fun _ _ _ h => h) (Or.inl ⟨by rfl, ?_⟩) hHeld ?_ ?_
  rotate_left
  · rintro w' ⟨s0, s1, s2, s3⟩
    go_simp
    with_reducible rfl
  rotate_left
  · simp only [Act.put, List.setIfInBounds_toArray, List.set_cons_zero, List.set_cons_succ, i64_w, i32_w]
    rfl
  refine pure_ (i := 13) (N := some 22) (v := ?_) (a' := ?_) #[true, true, true, true, true, true, true, true, true, true, true, true, true, true, false, true, true, true, true, false, false, false, false, false, false, false] rfl rfl (by kernel_rfl) (fun _ _ _ h => h) (Or.inl ⟨by rfl, ?_⟩) ?_ ?_
  rotate_left
  · intro w'
    go_simp
    with_reducible rfl
  rotate_left
  · simp only [Act.put, List.setIfInBounds_toArray, List.set_cons_zero, List.set_cons_succ, i64_w, i32_w]
    rfl
  refine take_ (i := 14) (N := some 23) (v := ?_) (a' := ?_) #[true, true, true, true, true, true, true, true, true, true, true, true, true, true, true, true, true, true, true, false, false, false, false, false, false, false] rfl rfl (by kernel_rfl) (fun _ _ _ h => h) (Or.inl ⟨by rfl, ?_⟩) hHeld ?_ ?_
  rotate_left
  · rintro w' ⟨s0, s1, s2, s3⟩
    go_simp
    with_reducible rfl
  rotate_left
  · simp only [Act.put, List.setIfInBounds_toArray, List.set_cons_zero, List.set_cons_succ, i64_w, i32_w]
    rfl
  refine take_ (i := 19) (N := some 28) (v := ?_) (a' := ?_) #[true, true, true, true, true, true, true, true, true, true, true, true, true, true, true, true, true, true, true, true, false, false, false, false, false, false] rfl rfl (by kernel_rfl) (fun _ _ _ h => h) (Or.inl ⟨by rfl, ?_⟩) hHeld ?_ ?_
  rotate_left
  · rintro w' ⟨s0, s1, s2, s3⟩
    go_simp
    with_reducible rfl
  rotate_left
  · simp only [Act.put, List.setIfInBounds_toArray, List.set_cons_zero, List.set_cons_succ, i64_w, i32_w]
    rfl
  refine one_ (i := 20) (N := some 29) #[true, true, true, true, true, true, true, true, true, true, true, true, true, true, true, true, true, true, true, true, true, false, false, false, false, false] rfl rfl (by kernel_rfl) (by decide) (fun K hK => ?_)
  refine goes_ Try.func93 (by kernel_rfl) rfl #[.pointer (some ⟨R.ver (E.procs p).seen, 0, none⟩), .pointer (some ⟨be, 0, none⟩), .slice at_ (E.procs p).todo.length ct] (by rfl) rfl rfl (by simp only [List.map_toArray, List.map_cons, List.map_nil]; rfl) ?_
  with_reducible refine ((by rw [← HT.out]; exact HW.out : Calls _ _ _ _ _)).mono ?_
  rintro e w3 ⟨b, vL3, vl3, vr3, vg3, rfl, hM3⟩
  refine ⟨_, rfl, ?_⟩
  try clear hHeld
  refine hK.out _ _ ⟨(hM3.bel.cell (p := ⟨be, 5, none⟩) hle).trans e5, (hM3.bel.cell (p := ⟨R.pa p, 8, none⟩) hlp).trans p8, (hM3.bel.cell (p := ⟨gv, (E.procs p).seen, none⟩) hlv).trans v0, (hM3.bel.cell (p := ⟨R.pa p, 9, none⟩) hlp).trans p9⟩ (fun hHeld => ?_)
  clear hK K
  refine norm_ (a' := ?_) ?_ ?_
  rotate_left
  · show Act.put _ (some 29) _ = _
    simp only [Act.put, List.setIfInBounds_toArray, List.set_cons_zero, List.set_cons_succ, i64_w, i32_w]
    rfl
  refine one_ (i := 21) (N := some 30) #[true, true, true, true, true, true, true, true, true, true, true, true, true, true, true, true, true, true, true, true, true, true, false, false, false, false] rfl rfl (by kernel_rfl) (by decide) (fun K hK => ?_)
  refine value_ (w1 := ?_) (v := ?_) (by rfl) rfl ?_ ?_
  rotate_left 2
  · go_simp
    constructor
    · rfl
    · rfl
  try clear hHeld
  refine hK.out _ _ ⟨Lib.cell?_alloc_some _ ((hM3.bel.cell (p := ⟨be, 5, none⟩) hle).trans e5), Lib.cell?_alloc_some _ ((hM3.bel.cell (p := ⟨R.pa p, 8, none⟩) hlp).trans p8), Lib.cell?_alloc_some _ ((hM3.bel.cell (p := ⟨gv, (E.procs p).seen, none⟩) hlv).trans v0), Lib.cell?_alloc_some _ ((hM3.bel.cell (p := ⟨R.pa p, 9, none⟩) hlp).trans p9)⟩ (fun hHeld => ?_)
  clear hK K
  refine norm_ (a' := ?_) ?_ ?_
  rotate_left
  · show Act.put _ (some 30) _ = _
    simp only [Act.put, List.setIfInBounds_toArray, List.set_cons_zero, List.set_cons_succ, i64_w, i32_w]
    rfl
  refine last_ (i := 22) (N := some 31) #[true, true, true, true, true, true, true, true, true, true, true, true, true, true, true, true, true, true, true, true, true, true, true, false, false, false] rfl rfl (by kernel_rfl) (by decide) (fun K hK => ?_)
  have hO3 : Own w3 82 1 R.vv E.vers.length ((List.range E.vers.length).map fun i => ptrV (R.ver i)) := own_keeps (w := w.drew) h.vers (Keeps.ofBelow (F := fun _ => False) hM3.bel) (fun _ _ h => h)
  refine append_own_ rfl rfl _ _ 74 rfl 82 (.pointer none) 1 8 Try.underlying74 infoPV rfl (by decide) (.slice (some ⟨gv, 0, none⟩) E.vers.length cv) E.vers.length ((List.range E.vers.length).map fun i => ptrV (R.ver i)) rfl (by rw [← HV.out]; exact hO3.alloc _) ⟨w3.heap.size, 0, none⟩ 1 1 [.pointer (some ⟨b, 0, none⟩)] rfl rfl (cells_new w3 [.pointer (some ⟨b, 0, none⟩)] 82) (by intro u hu; simp at hu; subst hu; rfl) (by omega) (by decide) ?_
  intro vv' w6 hown hgrow hat
  obtain ⟨a6, c6, evv6⟩ := own_shape hown
  subst evv6
  have hE3 : Blk w3 be _ _ := h.eng.drew.below hM3.bel hle
  have hB3 : Blk w3 (R.pa p) _ _ := hx.blk.drew.below hM3.bel hlp
  have hE6 : Blk w6 be _ _ := (hgrow.block be (by have := hE3.lt; simp; omega) (by rw [← HV.out]; exact fun e => own_blk_ne h.vers h.eng (by decide) e.symm)).trans (hE3.alloc _)
  have hB6 : Blk w6 (R.pa p) _ _ := (hgrow.block (R.pa p) (by have := hB3.lt; simp; omega) (by rw [← HV.out]; exact fun e => own_blk_ne h.vers hx.blk (by decide) e.symm)).trans (hB3.alloc _)
  have c65 := hE6.cell 5
  have f65 := hE6.frozen 5
  have HGR := Lib.hid hgrow
  have HOW := Lib.hid hown
  have HAT := Lib.hid hat
  clear hgrow hown hat
  try clear hHeld
  refine hK.out _ _ ?_
  clear hK K
  refine norm_ (a' := ?_) ?_ ?_
  rotate_left
  · show Act.put _ (some 31) _ = _
    simp only [Act.put, List.setIfInBounds_toArray, List.set_cons_zero, List.set_cons_succ, i64_w, i32_w]
    rfl
  refine pure_ (i := 23) (N := some 32) (v := ?_) (a' := ?_) #[true, true, true, true, true, true, true, true, true, true, true, true, true, true, true, true, true, true, true, true, true, true, true, true, false, false] rfl rfl (by kernel_rfl) (fun _ _ _ h => h) (Or.inl ⟨by rfl, ?_⟩) ?_ ?_
  rotate_left
  · intro w'
    go_simp
    with_reducible rfl
  rotate_left
  · simp only [Act.put, List.setIfInBounds_toArray, List.set_cons_zero, List.set_cons_succ, i64_w, i32_w]
    rfl
  refine pure_ (i := 24) (N := some 33) (v := ?_) (a' := ?_) #[true, true, true, true, true, true, true, true, true, true, true, true, true, true, true, true, true, true, true, true, true, true, true, true, true, false] rfl rfl (by kernel_rfl) (fun _ _ _ h => h) (Or.inl ⟨by rfl, ?_⟩) ?_ ?_
  rotate_left
  · intro w'
    go_simp
    with_reducible rfl
  rotate_left
  · simp only [Act.put, List.setIfInBounds_toArray, List.set_cons_zero, List.set_cons_succ, i64_w, i32_w]
    rfl
  refine last_ (i := 25) (N := none) #[true, true, true, true, true, true, true, true, true, true, true, true, true, true, true, true, true, true, true, true, true, true, true, true, true, true] rfl rfl (by kernel_rfl) (by decide) (fun K hK => ?_)
  refine skip_ (w1 := ?_) (by rfl) rfl ?_ ?_
  rotate_left
  · go_simp
    rfl
  try clear hHeld
  refine hK.out _ _ ?_
  clear hK K
  try clear hHeld
  refine done_ (by kernel_rfl) ?_
  go_wp2_with fail
  have hE7 := hE6.set 5 (.slice a6 (E.vers.length + 1) c6)
  have hB7 := hB6.other (a := ⟨be, 5, none⟩) (Ne.symm hbe) (.slice a6 (E.vers.length + 1) c6)
  have k36 : Keeps (fun k => R.vv.ownBlock = some k) w3 w6 := ((Keeps.refl _ w3).alloc _).grown HGR.out (fun k hk => .inl (by rw [HV.out]; exact hk))
  have hMm : Mach w6 R.bm R.vc R.vs ⟨cellsP n E, R.steps⟩ := (h.mach.drew.keeps (Keeps.ofBelow (F := fun _ => False) hM3.bel) (fun _ _ h => h)).keeps k36 (fun k hk e => by have := h.machT k hk; rw [h.versT k e] at this; simp at this)
  have hMm7 := hMm.other (a := ⟨be, 5, none⟩) nE (.slice a6 (E.vers.length + 1) c6)
  have K37 : Keeps (swapF R be p) w3 _ := (k36.mono fun k hk => .inr (.inr hk)).set be 5 (.inl (.inr (.inl rfl))) (.slice a6 (E.vers.length + 1) c6)
  have hV7 := own_set HOW.out hE6 (by decide) 5 (.slice a6 (E.vers.length + 1) c6)
  have hV7' : Fresh w.heap.size (.slice a6 (E.vers.length + 1) c6) ∨ (Value.slice a6 (E.vers.length + 1) c6).ownBlock = R.vv.ownBlock := by
    rcases HAT.out with e | e
    · exact .inr (by rw [HV.out]; exact e)
    · refine .inl fun k hk => ?_
      rw [e] at hk
      injection hk with hk
      have := hM3.bel.size
      have : w.drew.heap.size = w.heap.size := rfl
      simp at hk
      omega
  have HN := Lib.hid (VMid.nver hM3 (hvL.drew))
  have HBEL := Lib.hid hM3.bel
  clear hE6 hB6 c65 f65 HGR HOW HAT k36 hMm hE3 hB3 hO3 hM3
  generalize w6.setCell ⟨be, 5, none⟩ (.slice a6 (E.vers.length + 1) c6) = w7 at *
  have d0 : w7.cell? ⟨be, 0, none⟩ = some (.pointer (some ⟨R.bm, 0, none⟩)) := hE7.cell 0
  have d2 : w7.cell? ⟨be, 2, none⟩ = some (.int .i64 n) := hE7.cell 2
  have d5 : w7.cell? ⟨be, 5, none⟩ = some (.slice a6 (E.vers.length + 1) c6) := hE7.cell 5
  have c1 : w7.cell? ⟨R.pa p, 1, none⟩ = some (.int .i64 p) := hB7.cell 1
  have c8 : w7.cell? ⟨R.pa p, 8, none⟩ = some (.int .i64 (E.procs p).seen) := hB7.cell 8
  clear p0 p1 p8 p9 e0 e2 e5 v0
  refine start_ (n := 23) (S := fun w' => w'.cell? ⟨be, 0, none⟩ = some (.pointer (some ⟨R.bm, 0, none⟩)) ∧ w'.cell? ⟨R.pa p, 1, none⟩ = some (.int .i64 p) ∧ w'.cell? ⟨be, 2, none⟩ = some (.int .i64 n) ∧ w'.cell? ⟨R.pa p, 8, none⟩ = some (.int .i64 (E.procs p).seen) ∧ w'.cell? ⟨be, 5, none⟩ = some (.slice a6 (E.vers.length + 1) c6)) (ds := []) #[false, false, false, false, false, false, false, false, false, false, false, false, false, false, false, false, false, false, false, false, false, false, false] (by kernel_rfl) rfl rfl ⟨d0, c1, d2, c8, d5⟩ (fun hHeld => ?_)
  refine pure_ (i := 0) (N := some 34) (v := ?_) (a' := ?_) #[true, false, false, false, false, false, false, false, false, false, false, false, false, false, false, false, false, false, false, false, false, false, false] rfl rfl (by kernel_rfl) (fun _ _ _ h => h) (Or.inl ⟨by rfl, ?_⟩) ?_ ?_
  rotate_left
  · intro w'
    go_simp
    with_reducible rfl
  rotate_left
  · simp only [Act.put, List.setIfInBounds_toArray, List.set_cons_zero, List.set_cons_succ, i64_w, i32_w]
    rfl
  refine pure_ (i := 1) (N := some 35) (v := ?_) (a' := ?_) #[true, true, false, false, false, false, false, false, false, false, false, false, false, false, false, false, false, false, false, false, false, false, false] rfl rfl (by kernel_rfl) (fun _ _ _ h => h) (Or.inl ⟨by rfl, ?_⟩) ?_ ?_
  rotate_left
  · intro w'
    go_simp
    with_reducible rfl
  rotate_left
  · simp only [Act.put, List.setIfInBounds_toArray, List.set_cons_zero, List.set_cons_succ, i64_w, i32_w]
    rfl
  refine pure_ (i := 2) (N := some 36) (v := ?_) (a' := ?_) #[true, true, true, false, false, false, false, false, false, false, false, false, false, false, false, false, false, false, false, false, false, false, false] rfl rfl (by kernel_rfl) (fun _ _ _ h => h) (Or.inl ⟨by rfl, ?_⟩) ?_ ?_
  rotate_left
  · intro w'
    go_simp
    with_reducible rfl
  rotate_left
  · simp only [Act.put, List.setIfInBounds_toArray, List.set_cons_zero, List.set_cons_succ, i64_w, i32_w]
    rfl
  refine pure_ (i := 4) (N := some 38) (v := ?_) (a' := ?_) #[true, true, true, false, true, false, false, false, false, false, false, false, false, false, false, false, false, false, false, false, false, false, false] rfl rfl (by kernel_rfl) (fun _ _ _ h => h) (Or.inl ⟨by rfl, ?_⟩) ?_ ?_
  rotate_left
  · intro w'
    go_simp
    with_reducible rfl
  rotate_left
  · simp only [Act.put, List.setIfInBounds_toArray, List.set_cons_zero, List.set_cons_succ, i64_w, i32_w]
    rfl
  refine pure_ (i := 5) (N := some 39) (v := ?_) (a' := ?_) #[true, true, true, false, true, true, false, false, false, false, false, false, false, false, false, false, false, false, false, false, false, false, false] rfl rfl (by kernel_rfl) (fun _ _ _ h => h) (Or.inl ⟨by rfl, ?_⟩) ?_ ?_
  rotate_left
  · intro w'
    go_simp
    with_reducible rfl
  rotate_left
  · simp only [Act.put, List.setIfInBounds_toArray, List.set_cons_zero, List.set_cons_succ, i64_w, i32_w]
    rfl
  refine pure_ (i := 6) (N := some 40) (v := ?_) (a' := ?_) #[true, true, true, false, true, true, true, false, false, false, false, false, false, false, false, false, false, false, false, false, false, false, false] rfl rfl (by kernel_rfl) (fun _ _ _ h => h) (Or.inl ⟨by rfl, ?_⟩) ?_ ?_
  rotate_left
  · intro w'
    go_simp
    with_reducible rfl
  rotate_left
  · simp only [Act.put, List.setIfInBounds_toArray, List.set_cons_zero, List.set_cons_succ, i64_w, i32_w]
    rfl
  refine pure_ (i := 8) (N := some 42) (v := ?_) (a' := ?_) #[true, true, true, false, true, true, true, false, true, false, false, false, false, false, false, false, false, false, false, false, false, false, false] rfl rfl (by kernel_rfl) (fun _ _ _ h => h) (Or.inl ⟨by rfl, ?_⟩) ?_ ?_
  rotate_left
  · intro w'
    go_simp
    with_reducible rfl
  rotate_left
  · simp only [Act.put, List.setIfInBounds_toArray, List.set_cons_zero, List.set_cons_succ, i64_w, i32_w]
    rfl
  refine pure_ (i := 9) (N := some 43) (v := ?_) (a' := ?_) #[true, true, true, false, true, true, true, false, true, true, false, false, false, false, false, false, false, false, false, false, false, false, false] rfl rfl (by kernel_rfl) (fun _ _ _ h => h) (Or.inl ⟨by rfl, ?_⟩) ?_ ?_
  rotate_left
  · intro w'
    go_simp
    with_reducible rfl
  rotate_left
  · simp only [Act.put, List.setIfInBounds_toArray, List.set_cons_zero, List.set_cons_succ, i64_w, i32_w]
    rfl
  refine pure_ (i := 10) (N := some 44) (v := ?_) (a' := ?_) #[true, true, true, false, true, true, true, false, true, true, true, false, false, false, false, false, false, false, false, false, false, false, false] rfl rfl (by kernel_rfl) (fun _ _ _ h => h) (Or.inl ⟨by rfl, ?_⟩) ?_ ?_
  rotate_left
  · intro w'
    go_simp
    with_reducible rfl
  rotate_left
  · simp only [Act.put, List.setIfInBounds_toArray, List.set_cons_zero, List.set_cons_succ, i64_w, i32_w]
    rfl
  refine pure_ (i := 12) (N := some 46) (v := ?_) (a' := ?_) #[true, true, true, false, true, true, true, false, true, true, true, false, true, false, false, false, false, false, false, false, false, false, false] rfl rfl (by kernel_rfl) (fun _ _ _ h => h) (Or.inl ⟨by rfl, ?_⟩) ?_ ?_
  rotate_left
  · intro w'
    go_simp
    with_reducible rfl
  rotate_left
  · simp only [Act.put, List.setIfInBounds_toArray, List.set_cons_zero, List.set_cons_succ, i64_w, i32_w]
    rfl
  refine pure_ (i := 13) (N := some 47) (v := ?_) (a' := ?_) #[true, true, true, false, true, true, true, false, true, true, true, false, true, true, false, false, false, false, false, false, false, false, false] rfl rfl (by kernel_rfl) (fun _ _ _ h => h) (Or.inl ⟨by rfl, ?_⟩) ?_ ?_
  rotate_left
  · intro w'
    go_simp
    with_reducible rfl
  rotate_left
  · simp only [Act.put, List.setIfInBounds_toArray, List.set_cons_zero, List.set_cons_succ, i64_w, i32_w]
    rfl
  refine pure_ (i := 14) (N := some 48) (v := ?_) (a' := ?_) #[true, true, true, false, true, true, true, false, true, true, true, false, true, true, true, false, false, false, false, false, false, false, false] rfl rfl (by kernel_rfl) (fun _ _ _ h => h) (Or.inl ⟨by rfl, ?_⟩) ?_ ?_
  rotate_left
  · intro w'
    go_simp
    with_reducible rfl
  rotate_left
  · simp only [Act.put, List.setIfInBounds_toArray, List.set_cons_zero, List.set_cons_succ, i64_w, i32_w]
    rfl
  refine pure_ (i := 16) (N := some 50) (v := ?_) (a' := ?_) #[true, true, true, false, true, true, true, false, true, true, true, false, true, true, true, false, true, false, false, false, false, false, false] rfl rfl (by kernel_rfl) (fun _ _ _ h => h) (Or.inl ⟨by rfl, ?_⟩) ?_ ?_
  rotate_left
  · intro w'
    go_simp
    with_reducible rfl
  rotate_left
  · simp only [Act.put, List.setIfInBounds_toArray, List.set_cons_zero, List.set_cons_succ, i64_w, i32_w]
    rfl
  refine pure_ (i := 17) (N := some 51) (v := ?_) (a' := ?_) #[true, true, true, false, true, true, true, false, true, true, true, false, true, true, true, false, true, true, false, false, false, false, false] rfl rfl (by kernel_rfl) (fun _ _ _ h => h) (Or.inl ⟨by rfl, ?_⟩) ?_ ?_
  rotate_left
  · intro w'
    go_simp
    with_reducible rfl
  rotate_left
  · simp only [Act.put, List.setIfInBounds_toArray, List.set_cons_zero, List.set_cons_succ, i64_w, i32_w]
    rfl
  refine pure_ (i := 18) (N := some 52) (v := ?_) (a' := ?_) #[true, true, true, false, true, true, true, false, true, true, true, false, true, true, true, false, true, true, true, false, false, false, false] rfl rfl (by kernel_rfl) (fun _ _ _ h => h) (Or.inl ⟨by rfl, ?_⟩) ?_ ?_
  rotate_left
  · intro w'
    go_simp
    with_reducible rfl
  rotate_left
  · simp only [Act.put, List.setIfInBounds_toArray, List.set_cons_zero, List.set_cons_succ, i64_w, i32_w]
    rfl
  refine take_ (i := 3) (N := some 37) (v := ?_) (a' := ?_) #[true, true, true, true, true, true, true, false, true, true, true, false, true, true, true, false, true, true, true, false, false, false, false] rfl rfl (by kernel_rfl) (fun _ _ _ h => h) (Or.inl ⟨by rfl, ?_⟩) hHeld ?_ ?_
  rotate_left
  · rintro w' ⟨s0, s1, s2, s3, s4⟩
    go_simp
    with_reducible rfl
  rotate_left
  · simp only [Act.put, List.setIfInBounds_toArray, List.set_cons_zero, List.set_cons_succ, i64_w, i32_w]
    rfl
  refine take_ (i := 7) (N := some 41) (v := ?_) (a' := ?_) #[true, true, true, true, true, true, true, true, true, true, true, false, true, true, true, false, true, true, true, false, false, false, false] rfl rfl (by kernel_rfl) (fun _ _ _ h => h) (Or.inl ⟨by rfl, ?_⟩) hHeld ?_ ?_
  rotate_left
  · rintro w' ⟨s0, s1, s2, s3, s4⟩
    go_simp
    with_reducible rfl
  rotate_left
  · simp only [Act.put, List.setIfInBounds_toArray, List.set_cons_zero, List.set_cons_succ, i64_w, i32_w]
    rfl
  refine take_ (i := 11) (N := some 45) (v := ?_) (a' := ?_) #[true, true, true, true, true, true, true, true, true, true, true, true, true, true, true, false, true, true, true, false, false, false, false] rfl rfl (by kernel_rfl) (fun _ _ _ h => h) (Or.inl ⟨by rfl, ?_⟩) hHeld ?_ ?_
  rotate_left
  · rintro w' ⟨s0, s1, s2, s3, s4⟩
    go_simp
    with_reducible rfl
  rotate_left
  · simp only [Act.put, List.setIfInBounds_toArray, List.set_cons_zero, List.set_cons_succ, i64_w, i32_w]
    rfl
  refine take_ (i := 15) (N := some 49) (v := ?_) (a' := ?_) #[true, true, true, true, true, true, true, true, true, true, true, true, true, true, true, true, true, true, true, false, false, false, false] rfl rfl (by kernel_rfl) (fun _ _ _ h => h) (Or.inl ⟨by rfl, ?_⟩) hHeld ?_ ?_
  rotate_left
  · rintro w' ⟨s0, s1, s2, s3, s4⟩
    go_simp
    with_reducible rfl
  rotate_left
  · simp only [Act.put, List.setIfInBounds_toArray, List.set_cons_zero, List.set_cons_succ, i64_w, i32_w]
    rfl
  refine take_ (i := 19) (N := some 53) (v := ?_) (a' := ?_) #[true, true, true, true, true, true, true, true, true, true, true, true, true, true, true, true, true, true, true, true, false, false, false] rfl rfl (by kernel_rfl) (fun _ _ _ h => h) (Or.inl ⟨by rfl, ?_⟩) hHeld ?_ ?_
  rotate_left
  · rintro w' ⟨s0, s1, s2, s3, s4⟩
    go_simp
    with_reducible rfl
  rotate_left
  · simp only [Act.put, List.setIfInBounds_toArray, List.set_cons_zero, List.set_cons_succ, i64_w, i32_w]
    rfl
  refine pure_ (i := 20) (N := some 54) (v := ?_) (a' := ?_) #[true, true, true, true, true, true, true, true, true, true, true, true, true, true, true, true, true, true, true, true, true, false, false] rfl rfl (by kernel_rfl) (fun _ _ _ h => h) (Or.inl ⟨by rfl, ?_⟩) ?_ ?_
  rotate_left
  · intro w'
    go_simp
    with_reducible rfl
  rotate_left
  · simp only [Act.put, List.setIfInBounds_toArray, List.set_cons_zero, List.set_cons_succ, i64_w, i32_w]
    rfl
  refine pure_ (i := 21) (N := some 55) (v := ?_) (a' := ?_) #[true, true, true, true, true, true, true, true, true, true, true, true, true, true, true, true, true, true, true, true, true, true, false] rfl rfl (by kernel_rfl) (fun _ _ _ h => h) (Or.inl ⟨by rfl, ?_⟩) ?_ ?_
  rotate_left
  · intro w'
    go_simp
    with_reducible rfl
  rotate_left
  · simp only [Act.put, List.setIfInBounds_toArray, List.set_cons_zero, List.set_cons_succ, i64_w, i32_w]
    rfl
  refine one_ (i := 22) (N := some 56) #[true, true, true, true, true, true, true, true, true, true, true, true, true, true, true, true, true, true, true, true, true, true, true] rfl rfl (by kernel_rfl) (by decide) (fun K hK => ?_)
  refine goes_ Try.func94 (by kernel_rfl) rfl #[.pointer (some ⟨R.bm, 0, none⟩), .int .i64 p, .int .i64 n, .int .i64 (E.procs p).seen, .int .i64 E.vers.length] (by rfl) rfl rfl (by simp only [List.map_toArray, List.map_cons, List.map_nil]; rfl) ?_
  with_reducible refine (sw_root hMm7.drew _ _ _).mono ?_
  rintro e w8 ⟨⟨sb, rfl⟩, ⟨s8, hM8⟩, hK8⟩
  refine ⟨_, rfl, ?_⟩
  try clear hHeld
  refine hK.out _ _ ⟨hK8.cellSome nE d0, hK8.cellSome nP c1, hK8.cellSome nE d2, hK8.cellSome nP c8, hK8.cellSome nE d5⟩ (fun hHeld => ?_)
  clear hK K
  refine norm_ (a' := ?_) ?_ ?_
  rotate_left
  · show Act.put _ (some 56) _ = _
    simp only [Act.put, List.setIfInBounds_toArray, List.set_cons_zero, List.set_cons_succ, i64_w, i32_w]
    rfl
  try clear hHeld
  refine done_ (by kernel_rfl) ?_
  clear d0 d2 d5 c1 c8
  have hE8 := hE7.drew.keeps hK8 nE
  have hB8 := hB7.drew.keeps hK8 nP
  have hV8 := own_keeps (own_drew hV7) hK8 (fun q hq hf => by
    have hq' := h.machT q hf
    rcases hV7' with g | g
    · have := g q hq; have := (h.fresh q (by rw [hq']; simp)).2; omega
    · rw [g] at hq; rw [h.versT q hq] at hq'; simp at hq')
  have K38 := K37.drew.trans' (hK8.mono fun k hk => .inl (.inl hk))
  clear hE7 hB7 hV7 K37 hK8 hMm7
  have c6 : w8.cell? ⟨R.pa p, 6, none⟩ = some (.int .i64 (E.procs p).tries) := hB8.cell 6
  have f6 := hB8.frozen 6
  have hB9 := hB8.set 6 (.int .i64 (((E.procs p).tries : Int) + 1))
  have c5 := hB9.cell 5
  have f5 := hB9.frozen 5
  have HC := Lib.hid c5
  have HM8 := Lib.hid hM8
  have hm := hmf
  have htb : ((E.procs p).tries : Int) ≤ 1000000 := by have := hI.tries; omega
  clear c5 hM8
  go_wp2_with (go_at_call 69; refine (ps_goes _ _ _ _ _ _ HC.out f5).mono ?_; rintro e w9 ⟨rfl, rfl⟩)
  go_ret2
  have hfin := h.swap_fin hp hs (x := { E.procs p with tries := (E.procs p).tries + 1, ph := .finish }) (rootv := if E.rootv = (E.procs p).seen then E.vers.length else E.rootv) (steps := s8) ((Below.refl _ _).drew.trans HBEL.out) hc1 HN.out ((K38.set _ 6 (.inl (.inl (.inr rfl))) (.int .i64 (((E.procs p).tries : Int) + 1))).set _ 5 (.inl (.inl (.inr rfl))) (bound 95 (R.pa p)))
    ((HM8.out.other nP _).other nP _) rfl (hB9.set 5 _) ((hE8.other hbe _).other hbe _) (own_set (own_set hV8 hB8 (by decide) _ _) hB9 (by decide) _ _) hV7'.symm (.tuple #[.int .i64 0, .bool false])
  rw [← HEP.out] at hfin
  exact hfin
end Go.Proofs.Ytjfenjnnpikkdaa
/- An engine in memory, as its callers see it. -/
namespace Go.Proofs.Ytjfenjnnpikkdaa
set_option linter.unusedVariables false
set_option maxRecDepth 100000
set_option linter.unusedSimpArgs false
open Go.RowKit

abbrev opV (o : Op3) : Value := .agg #[.int .i64 o.code, .int .i64 o.a, .int .i64 o.b]
abbrev stV (s : St) (vl : Value) : Value := .agg #[.int .i64 s.kind, vl, .bool s.isSealed, .int .i64 s.to]
/-- How an engine lies in memory: w, base, its blocks, its pointer, how much was done, what it is. -/
abbrev ERepT (σ : Type) := World → Nat → (Nat → Prop) → Nat → Nat → σ → Prop
section
variable {σ : Type} (Rep : ERepT σ)
/-- What a method leaves. -/
def EPost (w : World) (base : Nat) (fp : Nat → Prop) (b m : Nat) (E' : σ) (v : Value) (e : Ending) (w' : World) : Prop :=
  e = .returned v ∧ ∃ fp', Rep w' base fp' b m E' ∧ (∀ k, k < w.heap.size → (fp' k ↔ fp k)) ∧ Keeps fp w w'
/-- What Log leaves. -/
def ELog (L : Lin σ) (w : World) (base : Nat) (fp : Nat → Prop) (b m : Nat) (E : σ) (e : Ending) (w' : World) : Prop :=
  ∃ v', e = .returned v' ∧ Own w' 39 7 v' (L.log E).length ((L.log E).flatMap recV) ∧ Fresh w.heap.size v' ∧ ∃ fp', Rep w' base fp' b m E ∧ (∀ k, k < w.heap.size → (fp' k ↔ fp k)) ∧ (∀ k, v'.ownBlock = some k → ¬ fp' k) ∧ Keeps fp w w'
/-- What State leaves. -/
def EState (L : Lin σ) (w : World) (base : Nat) (fp : Nat → Prop) (b m : Nat) (E : σ) (e : Ending) (w' : World) : Prop :=
  ∃ v' s, s = behind L.start (L.log E) ∧ s.L.length ≤ 300 ∧ e = .returned (stV s v') ∧ Own w' 3 1 v' s.L.length (ints s.L) ∧ Fresh w.heap.size v' ∧ ∃ fp', Rep w' base fp' b m E ∧ (∀ k, k < w.heap.size → (fp' k ↔ fp k)) ∧ (∀ k, v'.ownBlock = some k → ¬ fp' k) ∧ Keeps fp w w'
/-- What New leaves. -/
def ENew (w : World) (E0 : σ) (e : Ending) (w' : World) : Prop :=
  ∃ b fp, e = .returned (.tuple #[.pointer (some ⟨b, 0, none⟩), .int .i64 0]) ∧ Rep w' w.heap.size fp b 0 E0 ∧ Below w.heap.size w w'
structure EngIf (L : Lin σ) (fI fS fB fL fT : FuncId) : Prop where
  keeps : ∀ {w w' base fp b m E F}, Rep w base fp b m E → Keeps F w w' → (∀ k, F k → ¬ fp k ∧ base ≤ k) → Rep w' base fp b m E
  mono : ∀ {w base fp b m m' E}, Rep w base fp b m E → m ≤ m' → Rep w base fp b m' E
  lt : ∀ {w base fp b m E}, Rep w base fp b m E → ∀ k, fp k → base ≤ k ∧ k < w.heap.size
  inv : ∀ {w base fp b m E}, Rep w base fp b m E → L.Inv E
  small : 0 < L.n ∧ L.n ≤ 64
  invoke : ∀ {w base fp b m E}, Rep w base fp b m E → m < 1000000 → ∀ (p : Int) (o : Op3), Calls Try.prog fI #[.pointer (some ⟨b, 0, none⟩), .int .i64 p, opV o] w (EPost Rep w base fp b (m + 1) (invI L E p o) (.int .i64 (codeI L E p o)))
  step : ∀ {w base fp b m E}, Rep w base fp b m E → m < 1000000 → ∀ (p : Int), Calls Try.prog fS #[.pointer (some ⟨b, 0, none⟩), .int .i64 p] w (EPost Rep w base fp b (m + 1) (stpI L E p).1 (.tuple #[.int .i64 (stpI L E p).2.1, .bool (stpI L E p).2.2]))
  busy : ∀ {w base fp b m E}, Rep w base fp b m E → m < 1000000 → ∀ (p : Int), Calls Try.prog fB #[.pointer (some ⟨b, 0, none⟩), .int .i64 p] w (EPost Rep w base fp b m E (.bool (decide (0 ≤ p ∧ p < L.n ∧ L.busy E p.toNat = true))))
  log : ∀ {w base fp b m E}, Rep w base fp b m E → m < 1000000 → Calls Try.prog fL #[.pointer (some ⟨b, 0, none⟩)] w (ELog Rep L w base fp b m E)
  state : ∀ {w base fp b m E}, Rep w base fp b m E → m < 1000000 → Calls Try.prog fT #[.pointer (some ⟨b, 0, none⟩)] w (EState Rep L w base fp b m E)
end
end Go.Proofs.Ytjfenjnnpikkdaa
/- The document's Same of lists of records. -/
namespace Go.Proofs.Ytjfenjnnpikkdaa
set_option linter.unusedVariables false
set_option maxRecDepth 100000
set_option linter.unusedSimpArgs false
open Go.RowKit
open Go.Proofs.YtjfenjnnpikkdaaW.PrintLast

theorem own_shape2 {w : World} {e : TypeId} {size : Nat} {v : Value} {n : Nat} {xs : List Value} (h : Own w e size v n xs) : ∃ a c, v = .slice a n c ∧ n ≤ c ∧ c ≤ maxLen := by
  rcases h.2 with ⟨h1, h2⟩ | ⟨g, cap, cur, h1, _, _, h2, h3, _, _⟩
  · exact ⟨none, 0, by rw [h1, h2], by omega, by decide⟩
  · exact ⟨_, cap, h1, h2, h3⟩
/-- A slice that reads as records. -/
def RecRd (w : World) (v : Value) (l : List Rec) : Prop :=
  ∃ a c, v = .slice a l.length c ∧ (0 < l.length → ∃ b o, a = some ⟨b, o, none⟩ ∧ b < w.heap.size ∧ ∀ j u, (l.flatMap recV)[j]? = some u → w.cell? ⟨b, o + j, none⟩ = some u)
theorem RecRd.of {w : World} {v : Value} {l : List Rec} (h : Own w 39 7 v l.length (l.flatMap recV)) : RecRd w v l := by
  obtain ⟨a, c, rfl⟩ := own_shape h
  refine ⟨a, c, rfl, fun h0 => ?_⟩
  obtain ⟨g, c', e, _⟩ := own_open h h0
  injection e with e1 e2 e3
  subst e1 e3
  refine ⟨g, 0, rfl, own_lt h rfl, fun j u hj => ?_⟩
  have hl := (List.getElem?_eq_some_iff.1 hj).1
  rw [recs_len] at hl
  have := World.ownsRow.cellAt h j (by omega)
  rw [Nat.zero_add, this, hj]
theorem RecRd.ahead {w : World} {a : Option Addr} {c : Nat} {l m : List Rec} (h : RecRd w (.slice a (l ++ m).length c) (l ++ m)) : RecRd w (.slice a l.length c) l := by
  obtain ⟨a', c', e, h1⟩ := h
  injection e with e1 e2 e3
  subst e1 e3
  refine ⟨a, c, rfl, fun h0 => ?_⟩
  obtain ⟨b, o, rfl, hb, hc⟩ := h1 (by simp; omega)
  refine ⟨b, o, rfl, hb, fun j u hj => hc j u ?_⟩
  rw [List.flatMap_append, List.getElem?_append_left (List.getElem?_eq_some_iff.1 hj).1]
  exact hj
theorem RecRd.keeps {w w' : World} {v : Value} {l : List Rec} (h : RecRd w v l) {F : Nat → Prop} (hK : Keeps F w w') (hF : ∀ j, v.ownBlock = some j → ¬ F j) : RecRd w' v l := by
  obtain ⟨a, c, rfl, h1⟩ := h
  refine ⟨a, c, rfl, fun h0 => ?_⟩
  obtain ⟨b, o, rfl, hb, hc⟩ := h1 h0
  exact ⟨b, o, rfl, Nat.lt_of_lt_of_le hb hK.size, fun j u hj => hK.cellSome (p := ⟨b, o + j, none⟩) (hF b rfl) (hc j u hj)⟩
theorem rec_at : ∀ (l : List Rec) (i : Nat), i < l.length → ∀ j, j < 7 → (l.flatMap recV)[i * 7 + j]? = (recV (l.getD i ⟨0, 0, 0, ⟨0, 0, 0⟩, 0⟩))[j]? := by
  intro l
  induction l with
  | nil => intro i h; simp at h
  | cons a l ih =>
    intro i h j hj
    rcases i with _ | i
    · rw [List.flatMap_cons, List.getElem?_append_left (by simp [recV]; omega)]
      simp
    · rw [List.flatMap_cons, List.getElem?_append_right (by simp [recV]; omega)]
      rw [show (i + 1) * 7 + j - (recV a).length = i * 7 + j by simp [recV]; omega]
      simpa using ih i (by simpa using h) j hj
theorem RecRd.cells {w : World} {a : Option Addr} {c i : Nat} {l : List Rec} (h : RecRd w (.slice a l.length c) l) (hi : i < l.length) : ∃ b o r, r = l.getD i ⟨0, 0, 0, ⟨0, 0, 0⟩, 0⟩ ∧ a = some ⟨b, o, none⟩ ∧ b < w.heap.size ∧ w.cell? ⟨b, o + i * 7, none⟩ = some (.int .i64 r.index) ∧ w.cell? ⟨b, o + i * 7 + 1, none⟩ = some (.int .i64 r.proc) ∧ w.cell? ⟨b, o + i * 7 + 2, none⟩ = some (.int .i64 r.seq) ∧
    w.cell? ⟨b, o + i * 7 + 3, none⟩ = some (.int .i64 r.op.code) ∧ w.cell? ⟨b, o + i * 7 + 4, none⟩ = some (.int .i64 r.op.a) ∧ w.cell? ⟨b, o + i * 7 + 5, none⟩ = some (.int .i64 r.op.b) ∧ w.cell? ⟨b, o + i * 7 + 6, none⟩ = some (.int .i64 r.resp) := by
  obtain ⟨a', c', e, h1⟩ := h
  injection e with e1 e2 e3
  subst e1 e3
  obtain ⟨b, o, rfl, hb, hc⟩ := h1 (by omega)
  have hr := rec_at l i hi
  have g := fun j (hj : j < 7) u (hu : (recV (l.getD i ⟨0, 0, 0, ⟨0, 0, 0⟩, 0⟩))[j]? = some u) => hc (i * 7 + j) u ((hr j hj).trans hu)
  refine ⟨b, o, _, rfl, rfl, hb, ?_, ?_, ?_, ?_, ?_, ?_, ?_⟩
  · exact g 0 (by decide) _ rfl
  all_goals rw [Nat.add_assoc]
  · exact g 1 (by decide) _ rfl
  · exact g 2 (by decide) _ rfl
  · exact g 3 (by decide) _ rfl
  · exact g 4 (by decide) _ rfl
  · exact g 5 (by decide) _ rfl
  · exact g 6 (by decide) _ rfl
set_option maxRecDepth 100000 in
set_option maxHeartbeats 3200000 in
/-- Two that read the same are the same. -/
theorem same07 {w : World} {va vb : Value} {l : List Rec} (ha : RecRd w va l) (hb : RecRd w vb l) (hl : l.length ≤ 9223372036854775807) :
    Calls Try.prog 24 #[va, vb] w (Tells w true) := by
  obtain ⟨aa, ca, rfl, _⟩ := id ha
  obtain ⟨ab, cb, rfl, _⟩ := id hb
  have HA := Lib.hid ha
  have HB := Lib.hid hb
  clear ha hb
  go_enter Try.func24, Try.ntmps24
  go_wp2_with fail
  go_loopw [5] (fun iv wr => ∃ k : Nat, k ≤ l.length ∧ iv = .int .i64 k ∧ Below w.heap.size w wr) (fun iv _ => l.length - (intOf iv).toNat)
  case atStart => exact ⟨0, Nat.zero_le _, rfl, Below.refl _ _⟩
  case round =>
    obtain ⟨k, hk, rfl, hbl⟩ := hrel
    have HBL := Lib.hid hbl
    by_cases hlt : k < l.length
    · have d0 : decide ((k : Int) < l.length) = true := decide_eq_true (by omega)
      have i1 : (0 : Int) ≤ (k : Int) := by omega
      have i2 : (k : Int) < (l.length : Int) := by omega
      have i64k : IntKind.i64.wrap ((k : Int) + 1) = (k : Int) + 1 := IntWalk.i64_in _ (by omega)
      obtain ⟨ba, oa, r, hr, rfl, hba, a0, a1, a2, a3, a4, a5, a6⟩ := HA.out.cells hlt
      obtain ⟨bb, ob, r', hr', rfl, hbb, b0, b1, b2, b3, b4, b5, b6⟩ := HB.out.cells hlt
      rw [← hr] at hr'
      subst hr'
      have HR := Lib.hid hr
      have a0 := (hbl.cell (p := ⟨ba, oa + k * 7, none⟩) hba).trans a0
      have a1 := (hbl.cell (p := ⟨ba, oa + k * 7 + 1, none⟩) hba).trans a1
      have a2 := (hbl.cell (p := ⟨ba, oa + k * 7 + 2, none⟩) hba).trans a2
      have a3 := (hbl.cell (p := ⟨ba, oa + k * 7 + 3, none⟩) hba).trans a3
      have a4 := (hbl.cell (p := ⟨ba, oa + k * 7 + 4, none⟩) hba).trans a4
      have a5 := (hbl.cell (p := ⟨ba, oa + k * 7 + 5, none⟩) hba).trans a5
      have a6 := (hbl.cell (p := ⟨ba, oa + k * 7 + 6, none⟩) hba).trans a6
      have b0 := (hbl.cell (p := ⟨bb, ob + k * 7, none⟩) hbb).trans b0
      have b1 := (hbl.cell (p := ⟨bb, ob + k * 7 + 1, none⟩) hbb).trans b1
      have b2 := (hbl.cell (p := ⟨bb, ob + k * 7 + 2, none⟩) hbb).trans b2
      have b3 := (hbl.cell (p := ⟨bb, ob + k * 7 + 3, none⟩) hbb).trans b3
      have b4 := (hbl.cell (p := ⟨bb, ob + k * 7 + 4, none⟩) hbb).trans b4
      have b5 := (hbl.cell (p := ⟨bb, ob + k * 7 + 5, none⟩) hbb).trans b5
      have b6 := (hbl.cell (p := ⟨bb, ob + k * 7 + 6, none⟩) hbb).trans b6
      clear hbl hr
      go_wp2_with fail
      refine start_ (n := 9) (S := fun w' => w'.cell? ⟨ba, oa + k * 7, none⟩ = some (.int .i64 r'.index) ∧ w'.cell? ⟨ba, oa + k * 7 + 1, none⟩ = some (.int .i64 r'.proc) ∧ w'.cell? ⟨ba, oa + k * 7 + 2, none⟩ = some (.int .i64 r'.seq) ∧ w'.cell? ⟨ba, oa + k * 7 + 3, none⟩ = some (.int .i64 r'.op.code) ∧ w'.cell? ⟨ba, oa + k * 7 + 4, none⟩ = some (.int .i64 r'.op.a) ∧ w'.cell? ⟨ba, oa + k * 7 + 5, none⟩ = some (.int .i64 r'.op.b) ∧ w'.cell? ⟨ba, oa + k * 7 + 6, none⟩ = some (.int .i64 r'.resp) ∧ w'.cell? ⟨bb, ob + k * 7, none⟩ = some (.int .i64 r'.index) ∧ w'.cell? ⟨bb, ob + k * 7 + 1, none⟩ = some (.int .i64 r'.proc) ∧ w'.cell? ⟨bb, ob + k * 7 + 2, none⟩ = some (.int .i64 r'.seq) ∧ w'.cell? ⟨bb, ob + k * 7 + 3, none⟩ = some (.int .i64 r'.op.code) ∧ w'.cell? ⟨bb, ob + k * 7 + 4, none⟩ = some (.int .i64 r'.op.a) ∧ w'.cell? ⟨bb, ob + k * 7 + 5, none⟩ = some (.int .i64 r'.op.b) ∧ w'.cell? ⟨bb, ob + k * 7 + 6, none⟩ = some (.int .i64 r'.resp)) (ds := []) #[false, false, false, false, false, false, false, false, false] (by kernel_rfl) rfl rfl ⟨a0, a1, a2, a3, a4, a5, a6, b0, b1, b2, b3, b4, b5, b6⟩ (fun hHeld => ?_)
      refine pure_ (i := 0) (N := some 17) (v := ?_) (a' := ?_) #[true, false, false, false, false, false, false, false, false] rfl rfl (by kernel_rfl) (fun _ _ _ h => h) (Or.inl ⟨by rfl, ?_⟩) ?_ ?_
      rotate_left
      · intro w'
        go_simp
        with_reducible rfl
      rotate_left
      · simp only [Act.put, List.setIfInBounds_toArray, List.set_cons_zero, List.set_cons_succ, i64_w, i32_w]
        rfl
      refine pure_ (i := 1) (N := some 18) (v := ?_) (a' := ?_) #[true, true, false, false, false, false, false, false, false] rfl rfl (by kernel_rfl) (fun _ _ _ h => h) (Or.inl ⟨by rfl, ?_⟩) ?_ ?_
      rotate_left
      · intro w'
        go_simp
        with_reducible rfl
      rotate_left
      · simp only [Act.put, List.setIfInBounds_toArray, List.set_cons_zero, List.set_cons_succ, i64_w, i32_w]
        rfl
      refine pure_ (i := 2) (N := some 19) (v := ?_) (a' := ?_) #[true, true, true, false, false, false, false, false, false] rfl rfl (by kernel_rfl) (fun _ _ _ h => h) (Or.inl ⟨by rfl, ?_⟩) ?_ ?_
      rotate_left
      · intro w'
        go_simp
        with_reducible rfl
      rotate_left
      · simp only [Act.put, List.setIfInBounds_toArray, List.set_cons_zero, List.set_cons_succ, i64_w, i32_w]
        rfl
      refine pure_ (i := 4) (N := some 21) (v := ?_) (a' := ?_) #[true, true, true, false, true, false, false, false, false] rfl rfl (by kernel_rfl) (fun _ _ _ h => h) (Or.inl ⟨by rfl, ?_⟩) ?_ ?_
      rotate_left
      · intro w'
        go_simp
        with_reducible rfl
      rotate_left
      · simp only [Act.put, List.setIfInBounds_toArray, List.set_cons_zero, List.set_cons_succ, i64_w, i32_w]
        rfl
      refine pure_ (i := 5) (N := some 22) (v := ?_) (a' := ?_) #[true, true, true, false, true, true, false, false, false] rfl rfl (by kernel_rfl) (fun _ _ _ h => h) (Or.inl ⟨by rfl, ?_⟩) ?_ ?_
      rotate_left
      · intro w'
        go_simp
        with_reducible rfl
      rotate_left
      · simp only [Act.put, List.setIfInBounds_toArray, List.set_cons_zero, List.set_cons_succ, i64_w, i32_w]
        rfl
      refine pure_ (i := 6) (N := some 23) (v := ?_) (a' := ?_) #[true, true, true, false, true, true, true, false, false] rfl rfl (by kernel_rfl) (fun _ _ _ h => h) (Or.inl ⟨by rfl, ?_⟩) ?_ ?_
      rotate_left
      · intro w'
        go_simp
        with_reducible rfl
      rotate_left
      · simp only [Act.put, List.setIfInBounds_toArray, List.set_cons_zero, List.set_cons_succ, i64_w, i32_w]
        rfl
      refine take_ (i := 3) (N := some 20) (v := ?_) (a' := ?_) #[true, true, true, true, true, true, true, false, false] rfl rfl (by kernel_rfl) (fun _ _ _ h => h) (Or.inl ⟨by rfl, ?_⟩) hHeld ?_ ?_
      rotate_left
      · rintro w' ⟨s0, s1, s2, s3, s4, s5, s6, s7, s8, s9, s10, s11, s12, s13⟩
        go_simp
        with_reducible rfl
      rotate_left
      · simp only [Act.put, List.setIfInBounds_toArray, List.set_cons_zero, List.set_cons_succ, i64_w, i32_w]
        rfl
      refine take_ (i := 7) (N := some 24) (v := ?_) (a' := ?_) #[true, true, true, true, true, true, true, true, false] rfl rfl (by kernel_rfl) (fun _ _ _ h => h) (Or.inl ⟨by rfl, ?_⟩) hHeld ?_ ?_
      rotate_left
      · rintro w' ⟨s0, s1, s2, s3, s4, s5, s6, s7, s8, s9, s10, s11, s12, s13⟩
        go_simp
        with_reducible rfl
      rotate_left
      · simp only [Act.put, List.setIfInBounds_toArray, List.set_cons_zero, List.set_cons_succ, i64_w, i32_w]
        rfl
      refine pure_ (i := 8) (N := some 25) (v := ?_) (a' := ?_) #[true, true, true, true, true, true, true, true, true] rfl rfl (by kernel_rfl) (fun _ _ _ h => h) (Or.inl ⟨by rfl, ?_⟩) ?_ ?_
      rotate_left
      · intro w'
        go_simp
        with_reducible rfl
      rotate_left
      · simp only [Act.put, List.setIfInBounds_toArray, List.set_cons_zero, List.set_cons_succ, i64_w, i32_w]
        rfl
      try clear hHeld
      refine done_ (by kernel_rfl) ?_
      clear a0 a1 a2 a3 a4 a5 a6 b0 b1 b2 b3 b4 b5 b6
      go_wp2_with fail
      go_roundw
      case rel => exact ⟨k + 1, by omega, by go_num, HBL.out.drew⟩
      case measure => simp [intOf]; omega
    · have d0 : decide ((k : Int) < l.length) = false := decide_eq_false (by omega)
      clear hbl
      go_wp2_with fail
      go_ret
      exact ⟨rfl, HBL.out⟩
end Go.Proofs.Ytjfenjnnpikkdaa
/- Package psim: Step. -/
namespace Go.Proofs.Ytjfenjnnpikkdaa
set_option linter.unusedVariables false
set_option maxRecDepth 100000
set_option linter.unusedSimpArgs false
open Go.RowKit

theorem run_eqIn_func {P : Program} (w : World) (d : Nat) (t : TypeId) {a b : Array TypeId} {v : Bool} (h : P.underlying t = some (.func a b v)) (f : Fn) (x y : Array Value) : (Op.equalIn (d + 1) t (.func f x y) .nilFunc).run P w = .ok false w := by
  simp [Op.equalIn, run_underlying h]
theorem run_eqIn_nils {P : Program} (w : World) (d : Nat) (t : TypeId) {a b : Array TypeId} {v : Bool} (h : P.underlying t = some (.func a b v)) : (Op.equalIn (d + 1) t .nilFunc .nilFunc).run P w = .ok true w := by
  simp [Op.equalIn, run_underlying h]
theorem run_eql_func {P : Program} (w : World) (t : TypeId) {a b : Array TypeId} {v : Bool} (h : P.underlying t = some (.func a b v)) (f : Fn) (x y : Array Value) : (binOp .eql t (.func f x y) .nilFunc).run P w = .ok (.bool false) w := by
  simp only [binOp]
  simp [Op.equal, Op.maxDepth, run_eqIn_func w 9999 t h]
theorem run_eql_nils {P : Program} (w : World) (t : TypeId) {a b : Array TypeId} {v : Bool} (h : P.underlying t = some (.func a b v)) : (binOp .eql t .nilFunc .nilFunc).run P w = .ok (.bool true) w := by
  simp only [binOp]
  simp [Op.equal, Op.maxDepth, run_eqIn_nils w 9999 t h]
theorem run_neq_func {P : Program} (w : World) (t : TypeId) {a b : Array TypeId} {v : Bool} (h : P.underlying t = some (.func a b v)) (f : Fn) (x y : Array Value) : (binOp .neq t (.func f x y) .nilFunc).run P w = .ok (.bool true) w := by
  simp only [binOp]
  simp [Op.equal, Op.maxDepth, run_eqIn_func w 9999 t h]
theorem run_neq_nils {P : Program} (w : World) (t : TypeId) {a b : Array TypeId} {v : Bool} (h : P.underlying t = some (.func a b v)) : (binOp .neq t .nilFunc .nilFunc).run P w = .ok (.bool false) w := by
  simp only [binOp]
  simp [Op.equal, Op.maxDepth, run_eqIn_nils w 9999 t h]
theorem stepFn : ∃ a b v, Try.prog.underlying 79 = some (.func a b v) := ⟨_, _, _, Try.underlying79⟩

set_option maxRecDepth 100000 in
set_option maxHeartbeats 3200000 in
/-- A step of a method that goes on. -/
theorem ps_step_go {w : World} {base be n p : Nat} {R : PRef} {E E' : PS} (h : PRep w base be R n E) (hp : p < n) (f : FuncId) (hf : phV (R.pa p) (E.procs p).ph = bound f (R.pa p)) (hk : ∀ args W, (callFunc f args).run Try.prog W = .ok (.enter f args) W)
    (hC : Calls Try.prog f #[.pointer (some ⟨R.pa p, 0, none⟩)] w (PPost w base be R n E' (.tuple #[.int .i64 0, .bool false]))) :
    Calls Try.prog 23 #[.pointer (some ⟨be, 0, none⟩), .int .i64 p] w (PPost w base be R n E' (.tuple #[.int .i64 0, .bool false])) := by
  have hx := h.proc p hp
  have hF := ps_find h (p : Int)
  rw [if_pos (by omega), Int.toNat_natCast] at hF
  have p5 : w.cell? ⟨R.pa p, 5, none⟩ = some (phV (R.pa p) (E.procs p).ph) := hx.blk.cell 5
  rw [hf] at p5
  obtain ⟨ta, tb, tv, hty⟩ := stepFn
  have heq := fun (w : World) (f : Fn) (x y : Array Value) => run_eql_func w _ hty f x y
  have HF := Lib.hid hF
  have HC := Lib.hid hC
  have H := Lib.hid h
  have HP := Lib.hid hf
  clear hF hC h hf hty hx
  go_enter Try.func23, Try.ntmps23
  go_wp2_with (go_at_call 48; refine HF.out.mono ?_; rintro e w3 ⟨rfl, rfl⟩)
  refine HC.out.mono ?_
  rintro e w4 ⟨rfl, hR⟩
  have HR := Lib.hid hR
  clear hR heq
  go_wp2_with fail
  go_ret2
  exact ⟨rfl, HR.out⟩

set_option maxRecDepth 100000 in
set_option maxHeartbeats 3200000 in
/-- The last step of an operation. -/
theorem ps_step_fin {w : World} {base be n p : Nat} {R : PRef} {E : PS} (h : PRep w base be R n E) (hp : p < n) (hph : (E.procs p).ph = .finish) (hr : E.rootv < E.vers.length) (hv : E.vers.length ≤ 1073741824) :
    Calls Try.prog 23 #[.pointer (some ⟨be, 0, none⟩), .int .i64 p] w (PPost w base be R n (E.finish p) (.tuple #[.int .i64 (E.now.resp p), .bool true])) := by
  have hx := h.proc p hp
  have hF := ps_find h (p : Int)
  rw [if_pos (by omega), Int.toNat_natCast] at hF
  have p5 : w.cell? ⟨R.pa p, 5, none⟩ = some (phV (R.pa p) (E.procs p).ph) := hx.blk.cell 5
  rw [hph] at p5
  simp only [phV] at p5
  obtain ⟨ta, tb, tv, hty⟩ := stepFn
  have heq := fun (w : World) (f : Fn) (x y : Array Value) => run_eql_func w _ hty f x y
  have HF := Lib.hid hF
  have HC := Lib.hid (ps_finish h hp hr hv)
  have H := Lib.hid h
  have HP := Lib.hid hph
  have nP := h.nP hp
  clear hF h hph hty
  go_enter Try.func23, Try.ntmps23
  go_wp2_with (go_at_call 48; refine HF.out.mono ?_; rintro e w3 ⟨rfl, rfl⟩)
  refine HC.out.mono ?_
  rintro e w4 ⟨rfl, ⟨s4, hM4⟩, hK4⟩
  have hB4 := hx.blk.keeps hK4 nP
  have c5 := hB4.cell 5
  have f5 := hB4.frozen 5
  have HM := Lib.hid hM4
  have HK := Lib.hid hK4
  clear hM4 hK4 heq p5
  go_wp2_with fail
  go_ret2
  exact H.out.fin hp (x := { E.procs p with ph := .idle }) (annv := E.annv) (rootv := E.rootv) (steps := s4) ((HK.out.mono fun k hk => .inl hk).set _ 5 (.inl (.inr rfl)) _) (HM.out.other nP _) rfl (hB4.set 5 _) _

set_option maxRecDepth 100000 in
set_option maxHeartbeats 3200000 in
/-- A step of one that has nothing to do, or that there is not. -/
theorem ps_step_not {w : World} {base be n : Nat} {R : PRef} {E : PS} (h : PRep w base be R n E) (p : Int) (hno : ¬ (0 ≤ p ∧ p < n) ∨ (E.procs p.toNat).ph = .idle) :
    Calls Try.prog 23 #[.pointer (some ⟨be, 0, none⟩), .int .i64 p] w fun e w' => e = .returned (.tuple #[.int .i64 0, .bool false]) ∧ w' = w := by
  have hF := ps_find h p
  by_cases hin : 0 ≤ p ∧ p < n
  · rw [if_pos hin] at hF
    have hph := hno.resolve_left (fun h => h hin)
    have hx := h.proc p.toNat (by omega)
    have p5 : w.cell? ⟨R.pa p.toNat, 5, none⟩ = some (phV (R.pa p.toNat) (E.procs p.toNat).ph) := hx.blk.cell 5
    rw [hph] at p5
    simp only [phV] at p5
    obtain ⟨ta, tb, tv, hty⟩ := stepFn
    have heq := fun (w : World) => run_eql_nils w _ hty
    have HF := Lib.hid hF
    clear hF h hph hty hno
    go_enter Try.func23, Try.ntmps23
    go_wp2_with (go_at_call 48; refine HF.out.mono ?_; rintro e w3 ⟨rfl, rfl⟩)
    go_ret2
    exact ⟨rfl, rfl⟩
  · rw [if_neg hin] at hF
    have HF := Lib.hid hF
    clear hF h hno
    go_enter Try.func23, Try.ntmps23
    go_wp2_with (go_at_call 48; refine HF.out.mono ?_; rintro e w3 ⟨rfl, rfl⟩)
    go_ret2
    exact ⟨rfl, rfl⟩
end Go.Proofs.Ytjfenjnnpikkdaa
/- Package psim: Invoke. -/
namespace Go.Proofs.Ytjfenjnnpikkdaa
set_option linter.unusedVariables false
set_option maxRecDepth 100000
set_option linter.unusedSimpArgs false
open Go.RowKit
open Go.Proofs.YtjfenjnnpikkdaaW.PrintLast

theorem infoAsked : (Try.prog.info? 91).map (fun i => (i.zero, i.size, i.bytes)) = some (some (.agg #[.int .i64 0, .int .i64 0, .int .i64 0, .int .i64 0, .int .i64 0]), 5, 40) := by kernel_rfl
theorem PPost.from {w w2 : World} {base be n : Nat} {R : PRef} {E : PS} {v : Value} {e : Ending} {w' : World} (hb : Below w.heap.size w w2) (h : PPost w2 base be R n E v e w') : PPost w base be R n E v e w' := by
  obtain ⟨h1, R', h2, h3, h4⟩ := h
  exact ⟨h1, R', h2, fun k hk => h3 k (Nat.lt_of_lt_of_le hk hb.size), (Keeps.ofBelow hb).trans' h4⟩
theorem PPost.same {w w2 : World} {base be n : Nat} {R : PRef} {E : PS} (hb : Below w.heap.size w w2) (h : PRep w base be R n E) (v : Value) : PPost w base be R n E v (.returned v) w2 :=
  ⟨rfl, R, h.keeps (F := fun _ => False) (Keeps.ofBelow hb) (by simp), fun _ _ => rfl, Keeps.ofBelow hb⟩

set_option maxRecDepth 100000 in
set_option maxHeartbeats 3200000 in
/-- No such process, or an operation that may not be told. -/
theorem ps_invoke_arg {w : World} {base be n : Nat} {R : PRef} {E : PS} (h : PRep w base be R n E) (p : Int) (o : Op3) (hno : ¬ (0 ≤ p ∧ p < n) ∨ fitsB o = false) :
    Calls Try.prog 22 #[.pointer (some ⟨be, 0, none⟩), .int .i64 p, .agg #[.int .i64 o.code, .int .i64 o.a, .int .i64 o.b]] w (PPost w base be R n E (.int .i64 1)) := by
  have hb1 : Below w.heap.size w (w.alloc (.cells #[.int .i64 o.code, .int .i64 o.a, .int .i64 o.b] 37)) := (Below.refl _ _).alloc (Nat.le_refl _) _
  have h1 := h.keeps (F := fun _ => False) (Keeps.ofBelow hb1) (by simp)
  have hF := ps_find h1 p
  have hfit := fun W => o_fits (w := W) o
  by_cases hin : 0 ≤ p ∧ p < n
  · rw [if_pos hin] at hF
    have hf0 := hno.resolve_left (fun h => h hin)
    rw [hf0] at hfit
    have HFT := fun W => Lib.hid (hfit W)
    have HF := Lib.hid hF
    have H := Lib.hid h
    have HB1 := Lib.hid hb1
    clear hF h hno hf0 hfit h1 hb1
    go_enter Try.func22, Try.ntmps22
    go_wp2_with (first | (go_at_call 48; refine HF.out.mono ?_; rintro e w3 ⟨rfl, rfl⟩) | (go_at_call 49; refine (HFT _).out.mono ?_; rintro e w4 ⟨rfl, hb4⟩; have HB4 := Lib.hid hb4; clear hb4))
    go_ret
    exact PPost.same (HB1.out.trans (HB4.out.mono (by simp))) H.out _
  · rw [if_neg hin] at hF
    have HF := Lib.hid hF
    have H := Lib.hid h
    have HB1 := Lib.hid hb1
    clear hF h hno hfit h1 hb1
    go_enter Try.func22, Try.ntmps22
    go_wp2_with (go_at_call 48; refine HF.out.mono ?_; rintro e w3 ⟨rfl, rfl⟩)
    go_ret
    exact PPost.same HB1.out H.out _

set_option maxRecDepth 100000 in
set_option maxHeartbeats 3200000 in
/-- One that has something to do. -/
theorem ps_invoke_busy {w : World} {base be n p : Nat} {R : PRef} {E : PS} (h : PRep w base be R n E) (hp : p < n) (o : Op3) (hfo : fitsB o = true) (hb : (E.procs p).ph ≠ .idle) :
    Calls Try.prog 22 #[.pointer (some ⟨be, 0, none⟩), .int .i64 p, .agg #[.int .i64 o.code, .int .i64 o.a, .int .i64 o.b]] w (PPost w base be R n E (.int .i64 14)) := by
  have hb1 : Below w.heap.size w (w.alloc (.cells #[.int .i64 o.code, .int .i64 o.a, .int .i64 o.b] 37)) := (Below.refl _ _).alloc (Nat.le_refl _) _
  have h1 := h.keeps (F := fun _ => False) (Keeps.ofBelow hb1) (by simp)
  have hF := ps_find h1 (p : Int)
  rw [if_pos (by omega), Int.toNat_natCast] at hF
  have hfit := fun W => o_fits (w := W) o
  rw [hfo] at hfit
  have HFT := fun W => Lib.hid (hfit W)
  obtain ⟨f, hf⟩ : ∃ f, phV (R.pa p) (E.procs p).ph = bound f (R.pa p) := by
    cases hph : (E.procs p).ph with
    | idle => exact absurd hph hb
    | announce => exact ⟨_, rfl⟩
    | load => exact ⟨_, rfl⟩
    | scan => exact ⟨_, rfl⟩
    | swap => exact ⟨_, rfl⟩
    | finish => exact ⟨_, rfl⟩
  have hB1 := (h1.proc p hp).blk
  rw [hf] at hB1
  obtain ⟨ta, tb, tv, hty⟩ := stepFn
  have heq := fun (w : World) (f : Fn) (x y : Array Value) => run_neq_func w _ hty f x y
  have HF := Lib.hid hF
  have H := Lib.hid h
  have HB1 := Lib.hid hb1
  clear hF h hfit h1 hf hb1 hty
  go_enter Try.func22, Try.ntmps22
  go_wp2_with (first | (go_at_call 48; refine HF.out.mono ?_; rintro e w3 ⟨rfl, rfl⟩) | (go_at_call 49; refine (HFT _).out.mono ?_; rintro e w4 ⟨rfl, hb4⟩; have c5 := (hB1.below hb4 hB1.lt).cell 5; have HB4 := Lib.hid hb4; clear hb4))
  go_ret
  exact PPost.same (HB1.out.trans (HB4.out.mono (by simp))) H.out _
end Go.Proofs.Ytjfenjnnpikkdaa
/- Package psim: Invoke, of one that has nothing to do. -/
namespace Go.Proofs.Ytjfenjnnpikkdaa
set_option linter.unusedVariables false
set_option maxRecDepth 100000
set_option linter.unusedSimpArgs false
open Go.RowKit
open Go.Proofs.YtjfenjnnpikkdaaW.PrintLast

/-- The blocks that an Invoke turns. -/
def askF (R : PRef) (be p : Nat) (k : Nat) : Prop := k = R.pa p ∨ k = be ∨ R.va.ownBlock = some k
theorem PRep.ask_fin {w w' : World} {base be n p : Nat} {R : PRef} {E : PS} (h : PRep w base be R n E) (hp : p < n) (k : Keeps (askF R be p) w w') {x : Pr} {bf : Int} {va : Value} (hxt : x.todo = (E.procs p).todo)
    (hB : Blk w' (R.pa p) (procV be p x bf (phV (R.pa p) x.ph) (R.pt p)) 81) (hE : Blk w' be (engV { R with va := va } n) 76) {a : Asked} (hA : Own w' 91 5 va (E.asked.length + 1) (E.asked.flatMap askedV ++ askedV a))
    (hva : va.ownBlock = R.va.ownBlock ∨ Fresh w.heap.size va) (v : Value) :
    PPost w base be R n { E with procs := upd E.procs p x, asked := E.asked ++ [a] } v (.returned v) w' := by
  have hx := h.proc p hp
  have hT : ∀ k, askF R be p k → R.own k = some .mach ∨ R.own k = some (.proc p) ∨ R.own k = some .eng := by
    rintro k (rfl | rfl | hk)
    · exact .inr (.inl hx.tag)
    · exact .inr (.inr h.engT)
    · exact .inr (.inr (h.askedT k hk))
  have hlt : ∀ {t : Tag} {k}, R.own k = some t → k < w.heap.size := fun hk => (h.fresh _ (by rw [hk]; simp)).2
  generalize hown : (fun q => if q < w.heap.size then R.own q else if va.ownBlock = some q then some Tag.eng else none) = own'
  have ho : ∀ q, q < w.heap.size → own' q = R.own q := fun q hq => by subst hown; simp only; rw [if_pos hq]
  have hold : ∀ {t : Tag} {k}, R.own k = some t → own' k = some t := fun hk => (ho _ (hlt hk)).trans hk
  have hnew : ∀ q, w.heap.size ≤ q → own' q ≠ none → q < w'.heap.size := fun q h1 h2 => by
    subst hown; simp only at h2; rw [if_neg (by omega)] at h2
    by_cases c : va.ownBlock = some q
    · exact own_lt hA c
    · rw [if_neg c] at h2; simp at h2
  have nM : ∀ k, machF R.bm R.vc R.vs k → ¬ askF R be p k := fun q hq hf => by
    have hm := h.machT q hq
    rcases hf with rfl | rfl | hf
    · rw [hx.tag] at hm; simp at hm
    · rw [h.engT] at hm; simp at hm
    · rw [h.askedT q hf] at hm; simp at hm
  have nT : ∀ k, (R.pt p).ownBlock = some k → ¬ askF R be p k := fun q hq hf => by
    rcases hf with hf | hf | hf
    · subst hf; exact own_blk_ne hx.todo hx.blk (by decide) hq
    · subst hf; exact own_blk_ne hx.todo h.eng (by decide) hq
    · exact own_type_ne hx.todo h.asked (by decide) hq hf
  have nV : ∀ k, R.vv.ownBlock = some k → ¬ askF R be p k := fun q hq hf => by
    rcases hf with hf | hf | hf
    · subst hf; exact own_blk_ne h.vers hx.blk (by decide) hq
    · subst hf; exact own_blk_ne h.vers h.eng (by decide) hq
    · exact own_type_ne h.vers h.asked (by decide) hq hf
  have nP : ∀ k, R.vp.ownBlock = some k → ¬ askF R be p k := fun q hq hf => by
    rcases hf with hf | hf | hf
    · subst hf; exact own_blk_ne h.procs hx.blk (by decide) hq
    · subst hf; exact own_blk_ne h.procs h.eng (by decide) hq
    · exact own_type_ne h.procs h.asked (by decide) hq hf
  have key := h.gen hp k hT nP own' ho hnew E.annv E.rootv R.steps (h.mach.keeps k nM) x bf (R.pt p)
    ⟨hold hx.tag, hB, by rw [hxt]; exact own_keeps hx.todo k nT, fun q hq => hold (hx.todoT q hq)⟩ va R.vv hE (E.asked ++ [a]) (by simpa using hA) ?_ E.vers R.ver (own_keeps h.vers k nV) (fun q hq => hold (h.versT q hq)) (fun i hi => .inl ⟨hi, rfl, rfl⟩)
  · refine ⟨rfl, _, key, ho, k.mono fun j hj => ?_⟩
    rcases hT j hj with e | e | e <;> rw [e] <;> simp
  · intro q hq
    rcases hva with e | e
    · exact hold (h.askedT q (e ▸ hq))
    · have h1 := e q hq
      subst hown
      simp only
      rw [if_neg (by omega), if_pos hq]

set_option maxRecDepth 100000 in
set_option maxHeartbeats 6400000 in
theorem ps_invoke_ok {w : World} {base be n p : Nat} {R : PRef} {E : PS} (h : PRep w base be R n E) (hp : p < n) (o : Op3) (hfo : fitsB o = true) (hph : (E.procs p).ph = .idle) (hal : E.asked.length ≤ 536870912) (hmy : (E.procs p).many ≤ 536870912) :
    Calls Try.prog 22 #[.pointer (some ⟨be, 0, none⟩), .int .i64 p, .agg #[.int .i64 o.code, .int .i64 o.a, .int .i64 o.b]] w (PPost w base be R n (E.invoke p o) (.int .i64 0)) := by
  have hb1 : Below w.heap.size w (w.alloc (.cells #[.int .i64 o.code, .int .i64 o.a, .int .i64 o.b] 37)) := (Below.refl _ _).alloc (Nat.le_refl _) _
  have h1 := h.keeps (F := fun _ => False) (Keeps.ofBelow hb1) (by simp)
  have hF := ps_find h1 (p : Int)
  rw [if_pos (by omega), Int.toNat_natCast] at hF
  have hfit := fun W => o_fits (w := W) o
  rw [hfo] at hfit
  have HFT := fun W => Lib.hid (hfit W)
  have hO1 := Blk.new w #[.int .i64 o.code, .int .i64 o.a, .int .i64 o.b] 37
  obtain ⟨ta, tb, tv, hty⟩ := stepFn
  have heq := fun (w : World) => run_neq_nils w _ hty
  have HF := Lib.hid hF
  have HB1 := Lib.hid hb1
  have HBW := Lib.hid (by simp : w.heap.size ≤ (w.alloc (.cells #[.int .i64 o.code, .int .i64 o.a, .int .i64 o.b] 37)).heap.size)
  have hltp := (h.proc p hp).blk.lt
  have hlte := h.eng.lt
  clear hF hfit hb1 hty h
  have hx1 := h1.proc p hp
  have p5 := hx1.blk.cell 5
  rw [hph] at p5
  simp only [phV] at p5
  go_enter Try.func22, Try.ntmps22
  go_wp2_with fail
  generalize w.alloc (.cells #[.int .i64 o.code, .int .i64 o.a, .int .i64 o.b] 37) = w1 at *
  generalize hob : w.heap.size = ob at *
  have HOB := Lib.hid hob
  clear hob
  refine HF.out.mono ?_
  rintro e w1 ⟨rfl, rfl⟩
  have o0 : w1.cell? ⟨ob, 0, none⟩ = some (.int .i64 o.code) := hO1.cell 0
  have o1 : w1.cell? ⟨ob, 1, none⟩ = some (.int .i64 o.a) := hO1.cell 1
  have o2 : w1.cell? ⟨ob, 2, none⟩ = some (.int .i64 o.b) := hO1.cell 2
  go_wp2_with fail
  refine (HFT _).out.mono ?_
  rintro e w2 ⟨rfl, hb2⟩
  have h2 := h1.keeps (F := fun _ => False) (Keeps.ofBelow hb2) (by simp)
  have hO2 := hO1.below hb2 hO1.lt
  have hx2 := h2.proc p hp
  have HB2 := Lib.hid hb2
  have c5 : w2.cell? ⟨R.pa p, 5, none⟩ = some (phV (R.pa p) (E.procs p).ph) := hx2.blk.cell 5
  rw [hph] at c5
  simp only [phV] at c5
  have c3 : w2.cell? ⟨R.pa p, 3, none⟩ = some (.int .i64 (E.procs p).many) := hx2.blk.cell 3
  have f3 := hx2.blk.frozen 3
  have c4 := hx2.blk.cell 4
  have f4 := hx2.blk.frozen 4
  have c2 := hx2.blk.cell 2
  have f2 := hx2.blk.frozen 2
  have hB3 := hx2.blk.set 3 (.int .i64 (((E.procs p).many : Int) + 1))
  have e0 : w2.cell? ⟨be, 0, none⟩ = some (.pointer (some ⟨R.bm, 0, none⟩)) := h2.eng.cell 0
  have e4 : w2.cell? ⟨be, 4, none⟩ = some R.va := h2.eng.cell 4
  obtain ⟨aa, ca, eva⟩ := own_shape h2.asked
  rw [eva] at e4
  have hst := mach_steps (h2.mach.other (a := ⟨R.pa p, 3, none⟩) (h2.nP hp) (.int .i64 (((E.procs p).many : Int) + 1))) (p : Int)
  have hM2 := Lib.hid h2.mach
  have hA2 := Lib.hid h2.asked
  have hbe := h2.bne hp
  have hlo := hO2.lt
  have hnob : ob ≠ R.pa p := by omega
  have hnoe : ob ≠ be := by omega
  have HVA := Lib.hid eva
  have HST := Lib.hid hst
  have H2 := Lib.hid h2
  clear hb2 h1 hx1 p5 eva hst h2 HFT HF o0 o1 o2
  go_wp2_with (go_at_call 50; refine HST.out.mono ?_; rintro e w3 ⟨rfl, rfl⟩)
  generalize (⟨cellsP n E, R.steps⟩ : MS).stepsOf (p : Int) = bf at *
  have hB5 := (hB3.set 4 (.int .i64 bf)).set 2 (.int .i64 E.asked.length)
  have hE5 := ((H2.out.eng.other (a := ⟨R.pa p, 3, none⟩) hbe (.int .i64 (((E.procs p).many : Int) + 1))).other (a := ⟨R.pa p, 4, none⟩) hbe (.int .i64 bf)).other (a := ⟨R.pa p, 2, none⟩) hbe (.int .i64 E.asked.length)
  have hO5 := ((hO2.other (a := ⟨R.pa p, 3, none⟩) hnob (.int .i64 (((E.procs p).many : Int) + 1))).other (a := ⟨R.pa p, 4, none⟩) hnob (.int .i64 bf)).other (a := ⟨R.pa p, 2, none⟩) hnob (.int .i64 E.asked.length)
  have K25 : Keeps (fun k => k = R.pa p) w2 _ := (((Keeps.refl (fun k => k = R.pa p) w2).set (R.pa p) 3 (.inl rfl) (.int .i64 (((E.procs p).many : Int) + 1))).set (R.pa p) 4 (.inl rfl) (.int .i64 bf)).set (R.pa p) 2 (.inl rfl) (.int .i64 E.asked.length)
  clear hB3 hO2 c2 c3 c4 c5 e0 e4 f2 f3 f4 hO1 hlo HST
  generalize (((w2.setCell ⟨R.pa p, 3, none⟩ (.int .i64 (((E.procs p).many : Int) + 1))).setCell ⟨R.pa p, 4, none⟩ (.int .i64 bf)).setCell ⟨R.pa p, 2, none⟩ (.int .i64 E.asked.length)) = w5 at *
  have d4 : w5.cell? ⟨be, 4, none⟩ = some R.va := hE5.cell 4
  rw [HVA.out] at d4
  have c3 : w5.cell? ⟨R.pa p, 3, none⟩ = some (.int .i64 (((E.procs p).many : Int) + 1)) := hB5.cell 3
  have o0 : w5.cell? ⟨ob, 0, none⟩ = some (.int .i64 o.code) := hO5.cell 0
  have o1 : w5.cell? ⟨ob, 1, none⟩ = some (.int .i64 o.a) := hO5.cell 1
  have o2 : w5.cell? ⟨ob, 2, none⟩ = some (.int .i64 o.b) := hO5.cell 2
  have HA5 : Hid (Own w5 91 5 R.va E.asked.length (E.asked.flatMap askedV)) := Lib.hid (own_keeps hA2.out K25 (fun q hq hf => own_blk_ne hA2.out hx2.blk (by decide) (by rw [hq, hf])))
  refine start_ (n := 17) (S := fun w' => w'.cell? ⟨be, 4, none⟩ = some (.slice aa E.asked.length ca) ∧ w'.cell? ⟨R.pa p, 3, none⟩ = some (.int .i64 (((E.procs p).many : Int) + 1)) ∧ w'.cell? ⟨ob, 0, none⟩ = some (.int .i64 o.code) ∧ w'.cell? ⟨ob, 1, none⟩ = some (.int .i64 o.a) ∧ w'.cell? ⟨ob, 2, none⟩ = some (.int .i64 o.b)) (ds := [13, 16]) #[false, false, false, false, false, false, false, false, false, false, false, false, false, false, false, false, false] (by kernel_rfl) rfl rfl ⟨d4, c3, o0, o1, o2⟩ (fun hHeld => ?_)
  refine pure_ (i := 0) (N := some 49) (v := ?_) (a' := ?_) #[true, false, false, false, false, false, false, false, false, false, false, false, false, false, false, false, false] rfl rfl (by kernel_rfl) (fun _ _ _ h => h) (Or.inl ⟨by rfl, ?_⟩) ?_ ?_
  rotate_left
  · intro w'
    go_simp
    with_reducible rfl
  rotate_left
  · simp only [Act.put, List.setIfInBounds_toArray, List.set_cons_zero, List.set_cons_succ, i64_w, i32_w]
    rfl
  refine pure_ (i := 1) (N := some 50) (v := ?_) (a' := ?_) #[true, true, false, false, false, false, false, false, false, false, false, false, false, false, false, false, false] rfl rfl (by kernel_rfl) (fun _ _ _ h => h) (Or.inl ⟨by rfl, ?_⟩) ?_ ?_
  rotate_left
  · intro w'
    go_simp
    with_reducible rfl
  rotate_left
  · simp only [Act.put, List.setIfInBounds_toArray, List.set_cons_zero, List.set_cons_succ, i64_w, i32_w]
    rfl
  refine pure_ (i := 2) (N := some 51) (v := ?_) (a' := ?_) #[true, true, true, false, false, false, false, false, false, false, false, false, false, false, false, false, false] rfl rfl (by kernel_rfl) (fun _ _ _ h => h) (Or.inl ⟨by rfl, ?_⟩) ?_ ?_
  rotate_left
  · intro w'
    go_simp
    with_reducible rfl
  rotate_left
  · simp only [Act.put, List.setIfInBounds_toArray, List.set_cons_zero, List.set_cons_succ, i64_w, i32_w]
    rfl
  refine pure_ (i := 3) (N := some 52) (v := ?_) (a' := ?_) #[true, true, true, true, false, false, false, false, false, false, false, false, false, false, false, false, false] rfl rfl (by kernel_rfl) (fun _ _ _ h => h) (Or.inl ⟨by rfl, ?_⟩) ?_ ?_
  rotate_left
  · intro w'
    go_simp
    with_reducible rfl
  rotate_left
  · simp only [Act.put, List.setIfInBounds_toArray, List.set_cons_zero, List.set_cons_succ, i64_w, i32_w]
    rfl
  refine pure_ (i := 5) (N := some 54) (v := ?_) (a' := ?_) #[true, true, true, true, false, true, false, false, false, false, false, false, false, false, false, false, false] rfl rfl (by kernel_rfl) (fun _ _ _ h => h) (Or.inl ⟨by rfl, ?_⟩) ?_ ?_
  rotate_left
  · intro w'
    go_simp
    with_reducible rfl
  rotate_left
  · simp only [Act.put, List.setIfInBounds_toArray, List.set_cons_zero, List.set_cons_succ, i64_w, i32_w]
    rfl
  refine pure_ (i := 6) (N := some 55) (v := ?_) (a' := ?_) #[true, true, true, true, false, true, true, false, false, false, false, false, false, false, false, false, false] rfl rfl (by kernel_rfl) (fun _ _ _ h => h) (Or.inl ⟨by rfl, ?_⟩) ?_ ?_
  rotate_left
  · intro w'
    go_simp
    with_reducible rfl
  rotate_left
  · simp only [Act.put, List.setIfInBounds_toArray, List.set_cons_zero, List.set_cons_succ, i64_w, i32_w]
    rfl
  refine pure_ (i := 7) (N := some 56) (v := ?_) (a' := ?_) #[true, true, true, true, false, true, true, true, false, false, false, false, false, false, false, false, false] rfl rfl (by kernel_rfl) (fun _ _ _ h => h) (Or.inl ⟨by rfl, ?_⟩) ?_ ?_
  rotate_left
  · intro w'
    go_simp
    with_reducible rfl
  rotate_left
  · simp only [Act.put, List.setIfInBounds_toArray, List.set_cons_zero, List.set_cons_succ, i64_w, i32_w]
    rfl
  refine pure_ (i := 8) (N := some 57) (v := ?_) (a' := ?_) #[true, true, true, true, false, true, true, true, true, false, false, false, false, false, false, false, false] rfl rfl (by kernel_rfl) (fun _ _ _ h => h) (Or.inl ⟨by rfl, ?_⟩) ?_ ?_
  rotate_left
  · intro w'
    go_simp
    with_reducible rfl
  rotate_left
  · simp only [Act.put, List.setIfInBounds_toArray, List.set_cons_zero, List.set_cons_succ, i64_w, i32_w]
    rfl
  refine take_ (i := 4) (N := some 53) (v := ?_) (a' := ?_) #[true, true, true, true, true, true, true, true, true, false, false, false, false, false, false, false, false] rfl rfl (by kernel_rfl) (fun _ _ _ h => h) (Or.inl ⟨by rfl, ?_⟩) hHeld ?_ ?_
  rotate_left
  · rintro w' ⟨s0, s1, s2, s3, s4⟩
    go_simp
    with_reducible rfl
  rotate_left
  · simp only [Act.put, List.setIfInBounds_toArray, List.set_cons_zero, List.set_cons_succ, i64_w, i32_w]
    rfl
  refine take_ (i := 9) (N := some 58) (v := ?_) (a' := ?_) #[true, true, true, true, true, true, true, true, true, true, false, false, false, false, false, false, false] rfl rfl (by kernel_rfl) (fun _ _ _ h => h) (Or.inl ⟨by rfl, ?_⟩) hHeld ?_ ?_
  rotate_left
  · rintro w' ⟨s0, s1, s2, s3, s4⟩
    go_simp
    with_reducible rfl
  rotate_left
  · simp only [Act.put, List.setIfInBounds_toArray, List.set_cons_zero, List.set_cons_succ, i64_w, i32_w]
    rfl
  refine take_ (i := 10) (N := some 59) (v := ?_) (a' := ?_) #[true, true, true, true, true, true, true, true, true, true, true, false, false, false, false, false, false] rfl rfl (by kernel_rfl) (fun _ _ _ h => h) (Or.inl ⟨by rfl, ?_⟩) hHeld ?_ ?_
  rotate_left
  · rintro w' ⟨s0, s1, s2, s3, s4⟩
    go_simp
    with_reducible rfl
  rotate_left
  · simp only [Act.put, List.setIfInBounds_toArray, List.set_cons_zero, List.set_cons_succ, i64_w, i32_w]
    rfl
  refine pure_ (i := 11) (N := some 60) (v := ?_) (a' := ?_) #[true, true, true, true, true, true, true, true, true, true, true, true, false, false, false, false, false] rfl rfl (by kernel_rfl) (fun _ _ _ h => h) (Or.inl ⟨by rfl, ?_⟩) ?_ ?_
  rotate_left
  · intro w'
    go_simp
    with_reducible rfl
  rotate_left
  · simp only [Act.put, List.setIfInBounds_toArray, List.set_cons_zero, List.set_cons_succ, i64_w, i32_w]
    rfl
  refine one_ (i := 12) (N := some 61) #[true, true, true, true, true, true, true, true, true, true, true, true, true, false, false, false, false] rfl rfl (by kernel_rfl) (by decide) (fun K hK => ?_)
  refine value_ (w1 := ?_) (v := ?_) (by rfl) rfl ?_ ?_
  rotate_left 2
  · go_simp
    constructor
    · rfl
    · rfl
  try clear hHeld
  refine hK.out _ _ ⟨Lib.cell?_alloc_some _ d4, Lib.cell?_alloc_some _ c3, Lib.cell?_alloc_some _ o0, Lib.cell?_alloc_some _ o1, Lib.cell?_alloc_some _ o2⟩ (fun hHeld => ?_)
  clear hK K
  refine norm_ (a' := ?_) ?_ ?_
  rotate_left
  · show Act.put _ (some 61) _ = _
    simp only [Act.put, List.setIfInBounds_toArray, List.set_cons_zero, List.set_cons_succ, i64_w, i32_w]
    rfl
  refine last_ (i := 13) (N := some 62) #[true, true, true, true, true, true, true, true, true, true, true, true, true, true, false, false, false] rfl rfl (by kernel_rfl) (by decide) (fun K hK => ?_)
  refine append_own_ rfl rfl _ _ 72 rfl 91 (.agg #[.int .i64 0, .int .i64 0, .int .i64 0, .int .i64 0, .int .i64 0]) 5 40 Try.underlying72 infoAsked rfl (by decide) (.slice aa E.asked.length ca) E.asked.length (E.asked.flatMap askedV) rfl (by rw [← HVA.out]; exact HA5.out.alloc _) ⟨w5.heap.size, 0, none⟩ 1 1 [.int .i64 (p : Nat), .int .i64 (((E.procs p).many : Int) + 1), .int .i64 o.code, .int .i64 o.a, .int .i64 o.b] rfl rfl (cells_new w5 [.int .i64 (p : Nat), .int .i64 (((E.procs p).many : Int) + 1), .int .i64 o.code, .int .i64 o.a, .int .i64 o.b] 91) (by intro u hu; simp at hu; rcases hu with rfl | rfl | rfl | rfl | rfl <;> rfl) (by omega) (by decide) ?_
  intro va' w6 hown hgrow hat
  obtain ⟨a6, c6, eva6⟩ := own_shape hown
  subst eva6
  rw [← HVA.out] at hgrow hat
  have hE6 : Blk w6 be _ _ := (hgrow.block be (by have := hE5.lt; simp; omega) (fun e => own_blk_ne HA5.out hE5 (by decide) e.symm)).trans (hE5.alloc _)
  have hB6 : Blk w6 (R.pa p) _ _ := (hgrow.block (R.pa p) (by have := hB5.lt; simp; omega) (fun e => own_blk_ne HA5.out hB5 (by decide) e.symm)).trans (hB5.alloc _)
  have c64 := hE6.cell 4
  have f64 := hE6.frozen 4
  have HGR := Lib.hid hgrow
  have HOW := Lib.hid hown
  have HAT := Lib.hid hat
  clear hgrow hown hat
  try clear hHeld
  refine hK.out _ _ ?_
  clear hK K
  refine norm_ (a' := ?_) ?_ ?_
  rotate_left
  · show Act.put _ (some 62) _ = _
    simp only [Act.put, List.setIfInBounds_toArray, List.set_cons_zero, List.set_cons_succ, i64_w, i32_w]
    rfl
  refine pure_ (i := 14) (N := some 63) (v := ?_) (a' := ?_) #[true, true, true, true, true, true, true, true, true, true, true, true, true, true, true, false, false] rfl rfl (by kernel_rfl) (fun _ _ _ h => h) (Or.inl ⟨by rfl, ?_⟩) ?_ ?_
  rotate_left
  · intro w'
    go_simp
    with_reducible rfl
  rotate_left
  · simp only [Act.put, List.setIfInBounds_toArray, List.set_cons_zero, List.set_cons_succ, i64_w, i32_w]
    rfl
  refine pure_ (i := 15) (N := some 64) (v := ?_) (a' := ?_) #[true, true, true, true, true, true, true, true, true, true, true, true, true, true, true, true, false] rfl rfl (by kernel_rfl) (fun _ _ _ h => h) (Or.inl ⟨by rfl, ?_⟩) ?_ ?_
  rotate_left
  · intro w'
    go_simp
    with_reducible rfl
  rotate_left
  · simp only [Act.put, List.setIfInBounds_toArray, List.set_cons_zero, List.set_cons_succ, i64_w, i32_w]
    rfl
  refine last_ (i := 16) (N := none) #[true, true, true, true, true, true, true, true, true, true, true, true, true, true, true, true, true] rfl rfl (by kernel_rfl) (by decide) (fun K hK => ?_)
  refine skip_ (w1 := ?_) (by rfl) rfl ?_ ?_
  rotate_left
  · go_simp
    rfl
  try clear hHeld
  refine hK.out _ _ ?_
  clear hK K
  try clear hHeld
  refine done_ (by kernel_rfl) ?_
  clear d4 c3 o0 o1 o2
  have hE7 := hE6.set 4 (.slice a6 (E.asked.length + 1) c6)
  have hB7 := hB6.other (a := ⟨be, 4, none⟩) (Ne.symm hbe) (.slice a6 (E.asked.length + 1) c6)
  have c75 := hB7.cell 5
  have f75 := hB7.frozen 5
  have hm := hmf
  clear c64 f64
  go_wp2_with fail
  go_ret
  have K57 : Keeps (askF R be p) w5 _ := ((((Keeps.refl (askF R be p) w5).alloc _).grown (grown_drew HGR.out) (fun k hk => .inl (.inr (.inr hk)))).set be 4 (.inl (.inr (.inl rfl))) (.slice a6 (E.asked.length + 1) c6)).set (R.pa p) 5 (.inl (.inl rfl)) (bound 51 (R.pa p))
  refine PPost.from (by rw [HOB.out]; exact HB1.out.trans (HB2.out.mono HBW.out) : Below w.heap.size w w2) ?_
  exact H2.out.ask_fin hp (x := { E.procs p with many := (E.procs p).many + 1, own := E.asked.length, ph := .announce }) (bf := bf) (a := ⟨p, (E.procs p).many + 1, o⟩) ((K25.mono fun k hk => .inl hk).trans' K57) rfl (hB7.set 5 _) (hE7.other hbe _)
    (own_set (own_set HOW.out hE6 (by decide) _ _) hB7 (by decide) _ _) (HAT.out.imp id (fun e k hk => by rw [e] at hk; injection hk with hk; have := K25.size; simp at hk; omega)) (.int .i64 0)
end Go.Proofs.Ytjfenjnnpikkdaa
/- Package psim: Busy, now, Log, State. -/
namespace Go.Proofs.Ytjfenjnnpikkdaa
set_option linter.unusedVariables false
set_option maxRecDepth 100000
set_option linter.unusedSimpArgs false
open Go.RowKit
open Go.Proofs.YtjfenjnnpikkdaaW.PrintLast

set_option maxRecDepth 100000 in
set_option maxHeartbeats 3200000 in
theorem ps_busy {w : World} {base be n : Nat} {R : PRef} {E : PS} (h : PRep w base be R n E) (p : Int) :
    Calls Try.prog 25 #[.pointer (some ⟨be, 0, none⟩), .int .i64 p] w fun e w' => e = .returned (.bool (decide (0 ≤ p ∧ p < n ∧ (E.procs p.toNat).ph ≠ .idle))) ∧ w' = w := by
  have hF := ps_find h p
  by_cases hin : 0 ≤ p ∧ p < n
  · rw [if_pos hin] at hF
    have hx := h.proc p.toNat (by omega)
    have p5 : w.cell? ⟨R.pa p.toNat, 5, none⟩ = some (phV (R.pa p.toNat) (E.procs p.toNat).ph) := hx.blk.cell 5
    obtain ⟨ta, tb, tv, hty⟩ := stepFn
    have HF := Lib.hid hF
    by_cases hph : (E.procs p.toNat).ph = .idle
    · rw [decide_eq_false (fun h => h.2.2 hph)]
      rw [hph] at p5
      simp only [phV] at p5
      have heq := fun (w : World) => run_neq_nils w _ hty
      clear hF h hph hty hin hx
      go_enter Try.func25, Try.ntmps25
      go_wp2_with (go_at_call 48; refine HF.out.mono ?_; rintro e w3 ⟨rfl, rfl⟩)
      go_ret
      exact ⟨rfl, rfl⟩
    · rw [decide_eq_true ⟨hin.1, hin.2, hph⟩]
      obtain ⟨f, hf⟩ : ∃ f, phV (R.pa p.toNat) (E.procs p.toNat).ph = bound f (R.pa p.toNat) := by
        cases hph' : (E.procs p.toNat).ph with
        | idle => exact absurd hph' hph
        | announce => exact ⟨_, rfl⟩
        | load => exact ⟨_, rfl⟩
        | scan => exact ⟨_, rfl⟩
        | swap => exact ⟨_, rfl⟩
        | finish => exact ⟨_, rfl⟩
      rw [hf] at p5
      have heq := fun (w : World) (f : Fn) (x y : Array Value) => run_neq_func w _ hty f x y
      clear hF h hph hty hin hx hf
      go_enter Try.func25, Try.ntmps25
      go_wp2_with (go_at_call 48; refine HF.out.mono ?_; rintro e w3 ⟨rfl, rfl⟩)
      go_ret
      exact ⟨rfl, rfl⟩
  · rw [if_neg hin] at hF
    rw [decide_eq_false (fun h => hin ⟨h.1, h.2.1⟩)]
    have HF := Lib.hid hF
    clear hF h hin
    go_enter Try.func25, Try.ntmps25
    go_wp2_with (go_at_call 48; refine HF.out.mono ?_; rintro e w3 ⟨rfl, rfl⟩)
    go_ret
    exact ⟨rfl, rfl⟩

set_option maxRecDepth 100000 in
set_option maxHeartbeats 3200000 in
theorem ps_now {w : World} {base be n : Nat} {R : PRef} {E : PS} (h : PRep w base be R n E) (hr : E.rootv < E.vers.length) (hv : E.vers.length ≤ 1073741824) :
    Calls Try.prog 41 #[.pointer (some ⟨be, 0, none⟩)] w fun e w' => e = .returned (.pointer (some ⟨R.ver E.rootv, 0, none⟩)) ∧ (∃ s', Mach w' R.bm R.vc R.vs ⟨cellsP n E, s'⟩) ∧ Keeps (machF R.bm R.vc R.vs) w w' := by
  have e0 : w.cell? ⟨be, 0, none⟩ = some (.pointer (some ⟨R.bm, 0, none⟩)) := h.eng.cell 0
  have e2 : w.cell? ⟨be, 2, none⟩ = some (.int .i64 n) := h.eng.cell 2
  have e5 : w.cell? ⟨be, 5, none⟩ = some R.vv := h.eng.cell 5
  obtain ⟨gv, cv, gl, cl, evv, v0, _, _, tv, _, _⟩ := h.viewResp hr h.small.1
  rw [evv] at e5
  have nE := h.nE
  have nV := h.nTag tv (by simp)
  have i1 : (0 : Int) ≤ (E.rootv : Int) := by omega
  have i2 : (E.rootv : Int) < (E.vers.length : Int) := by omega
  have HV := Lib.hid evv
  clear evv
  go_enter Try.func41, Try.ntmps41
  go_wp2_with fail
  refine start_ (n := 16) (S := fun w' => w'.cell? ⟨be, 0, none⟩ = some (.pointer (some ⟨R.bm, 0, none⟩)) ∧ w'.cell? ⟨be, 2, none⟩ = some (.int .i64 n) ∧ w'.cell? ⟨be, 5, none⟩ = some (.slice (some ⟨gv, 0, none⟩) E.vers.length cv) ∧ w'.cell? ⟨gv, E.rootv, none⟩ = some (.pointer (some ⟨R.ver E.rootv, 0, none⟩))) (ds := []) #[false, false, false, false, false, false, false, false, false, false, false, false, false, false, false, false] (by kernel_rfl) rfl rfl ⟨e0, e2, e5, v0⟩ (fun hHeld => ?_)
  refine pure_ (i := 0) (N := some 3) (v := ?_) (a' := ?_) #[true, false, false, false, false, false, false, false, false, false, false, false, false, false, false, false] rfl rfl (by kernel_rfl) (fun _ _ _ h => h) (Or.inl ⟨by rfl, ?_⟩) ?_ ?_
  rotate_left
  · intro w'
    go_simp
    with_reducible rfl
  rotate_left
  · simp only [Act.put, List.setIfInBounds_toArray, List.set_cons_zero, List.set_cons_succ, i64_w, i32_w]
    rfl
  refine pure_ (i := 1) (N := some 4) (v := ?_) (a' := ?_) #[true, true, false, false, false, false, false, false, false, false, false, false, false, false, false, false] rfl rfl (by kernel_rfl) (fun _ _ _ h => h) (Or.inl ⟨by rfl, ?_⟩) ?_ ?_
  rotate_left
  · intro w'
    go_simp
    with_reducible rfl
  rotate_left
  · simp only [Act.put, List.setIfInBounds_toArray, List.set_cons_zero, List.set_cons_succ, i64_w, i32_w]
    rfl
  refine pure_ (i := 2) (N := some 5) (v := ?_) (a' := ?_) #[true, true, true, false, false, false, false, false, false, false, false, false, false, false, false, false] rfl rfl (by kernel_rfl) (fun _ _ _ h => h) (Or.inl ⟨by rfl, ?_⟩) ?_ ?_
  rotate_left
  · intro w'
    go_simp
    with_reducible rfl
  rotate_left
  · simp only [Act.put, List.setIfInBounds_toArray, List.set_cons_zero, List.set_cons_succ, i64_w, i32_w]
    rfl
  refine pure_ (i := 4) (N := some 7) (v := ?_) (a' := ?_) #[true, true, true, false, true, false, false, false, false, false, false, false, false, false, false, false] rfl rfl (by kernel_rfl) (fun _ _ _ h => h) (Or.inl ⟨by rfl, ?_⟩) ?_ ?_
  rotate_left
  · intro w'
    go_simp
    with_reducible rfl
  rotate_left
  · simp only [Act.put, List.setIfInBounds_toArray, List.set_cons_zero, List.set_cons_succ, i64_w, i32_w]
    rfl
  refine pure_ (i := 5) (N := some 8) (v := ?_) (a' := ?_) #[true, true, true, false, true, true, false, false, false, false, false, false, false, false, false, false] rfl rfl (by kernel_rfl) (fun _ _ _ h => h) (Or.inl ⟨by rfl, ?_⟩) ?_ ?_
  rotate_left
  · intro w'
    go_simp
    with_reducible rfl
  rotate_left
  · simp only [Act.put, List.setIfInBounds_toArray, List.set_cons_zero, List.set_cons_succ, i64_w, i32_w]
    rfl
  refine pure_ (i := 6) (N := some 9) (v := ?_) (a' := ?_) #[true, true, true, false, true, true, true, false, false, false, false, false, false, false, false, false] rfl rfl (by kernel_rfl) (fun _ _ _ h => h) (Or.inl ⟨by rfl, ?_⟩) ?_ ?_
  rotate_left
  · intro w'
    go_simp
    with_reducible rfl
  rotate_left
  · simp only [Act.put, List.setIfInBounds_toArray, List.set_cons_zero, List.set_cons_succ, i64_w, i32_w]
    rfl
  refine pure_ (i := 8) (N := some 11) (v := ?_) (a' := ?_) #[true, true, true, false, true, true, true, false, true, false, false, false, false, false, false, false] rfl rfl (by kernel_rfl) (fun _ _ _ h => h) (Or.inl ⟨by rfl, ?_⟩) ?_ ?_
  rotate_left
  · intro w'
    go_simp
    with_reducible rfl
  rotate_left
  · simp only [Act.put, List.setIfInBounds_toArray, List.set_cons_zero, List.set_cons_succ, i64_w, i32_w]
    rfl
  refine pure_ (i := 9) (N := some 12) (v := ?_) (a' := ?_) #[true, true, true, false, true, true, true, false, true, true, false, false, false, false, false, false] rfl rfl (by kernel_rfl) (fun _ _ _ h => h) (Or.inl ⟨by rfl, ?_⟩) ?_ ?_
  rotate_left
  · intro w'
    go_simp
    with_reducible rfl
  rotate_left
  · simp only [Act.put, List.setIfInBounds_toArray, List.set_cons_zero, List.set_cons_succ, i64_w, i32_w]
    rfl
  refine pure_ (i := 10) (N := some 13) (v := ?_) (a' := ?_) #[true, true, true, false, true, true, true, false, true, true, true, false, false, false, false, false] rfl rfl (by kernel_rfl) (fun _ _ _ h => h) (Or.inl ⟨by rfl, ?_⟩) ?_ ?_
  rotate_left
  · intro w'
    go_simp
    with_reducible rfl
  rotate_left
  · simp only [Act.put, List.setIfInBounds_toArray, List.set_cons_zero, List.set_cons_succ, i64_w, i32_w]
    rfl
  refine take_ (i := 3) (N := some 6) (v := ?_) (a' := ?_) #[true, true, true, true, true, true, true, false, true, true, true, false, false, false, false, false] rfl rfl (by kernel_rfl) (fun _ _ _ h => h) (Or.inl ⟨by rfl, ?_⟩) hHeld ?_ ?_
  rotate_left
  · rintro w' ⟨s0, s1, s2, s3⟩
    go_simp
    with_reducible rfl
  rotate_left
  · simp only [Act.put, List.setIfInBounds_toArray, List.set_cons_zero, List.set_cons_succ, i64_w, i32_w]
    rfl
  refine take_ (i := 7) (N := some 10) (v := ?_) (a' := ?_) #[true, true, true, true, true, true, true, true, true, true, true, false, false, false, false, false] rfl rfl (by kernel_rfl) (fun _ _ _ h => h) (Or.inl ⟨by rfl, ?_⟩) hHeld ?_ ?_
  rotate_left
  · rintro w' ⟨s0, s1, s2, s3⟩
    go_simp
    with_reducible rfl
  rotate_left
  · simp only [Act.put, List.setIfInBounds_toArray, List.set_cons_zero, List.set_cons_succ, i64_w, i32_w]
    rfl
  refine take_ (i := 11) (N := some 14) (v := ?_) (a' := ?_) #[true, true, true, true, true, true, true, true, true, true, true, true, false, false, false, false] rfl rfl (by kernel_rfl) (fun _ _ _ h => h) (Or.inl ⟨by rfl, ?_⟩) hHeld ?_ ?_
  rotate_left
  · rintro w' ⟨s0, s1, s2, s3⟩
    go_simp
    with_reducible rfl
  rotate_left
  · simp only [Act.put, List.setIfInBounds_toArray, List.set_cons_zero, List.set_cons_succ, i64_w, i32_w]
    rfl
  refine one_ (i := 12) (N := some 15) #[true, true, true, true, true, true, true, true, true, true, true, true, true, false, false, false] rfl rfl (by kernel_rfl) (by decide) (fun K hK => ?_)
  refine goes_ Try.func62 (by kernel_rfl) rfl #[.pointer (some ⟨R.bm, 0, none⟩), .int .i64 (-1), .int .i64 n] (by rfl) rfl rfl (by simp only [List.map_toArray, List.map_cons, List.map_nil]; rfl) ?_
  with_reducible refine (rd_root h.mach.drew _).mono ?_
  rintro e w3 ⟨rfl, ⟨s3, hM3⟩, hK3⟩
  refine ⟨_, rfl, ?_⟩
  try clear hHeld
  refine hK.out _ _ ⟨hK3.cellSome nE e0, hK3.cellSome nE e2, hK3.cellSome nE e5, hK3.cellSome nV v0⟩ (fun hHeld => ?_)
  clear hK K
  refine norm_ (a' := ?_) ?_ ?_
  rotate_left
  · show Act.put _ (some 15) _ = _
    simp only [Act.put, List.setIfInBounds_toArray, List.set_cons_zero, List.set_cons_succ, i64_w, i32_w]
    rfl
  refine pure_ (i := 13) (N := some 16) (v := ?_) (a' := ?_) #[true, true, true, true, true, true, true, true, true, true, true, true, true, true, false, false] rfl rfl (by kernel_rfl) (fun _ _ _ h => h) (Or.inl ⟨by rfl, ?_⟩) ?_ ?_
  rotate_left
  · intro w'
    go_simp
    with_reducible rfl
  rotate_left
  · simp only [Act.put, List.setIfInBounds_toArray, List.set_cons_zero, List.set_cons_succ, i64_w, i32_w]
    rfl
  refine take_ (i := 14) (N := some 17) (v := ?_) (a' := ?_) #[true, true, true, true, true, true, true, true, true, true, true, true, true, true, true, false] rfl rfl (by kernel_rfl) (fun _ _ _ h => h) (Or.inl ⟨by rfl, ?_⟩) hHeld ?_ ?_
  rotate_left
  · rintro w' ⟨s0, s1, s2, s3⟩
    go_simp
    with_reducible rfl
  rotate_left
  · simp only [Act.put, List.setIfInBounds_toArray, List.set_cons_zero, List.set_cons_succ, i64_w, i32_w]
    rfl
  refine pure_ (i := 15) (N := some 2) (v := ?_) (a' := ?_) #[true, true, true, true, true, true, true, true, true, true, true, true, true, true, true, true] rfl rfl (by kernel_rfl) (fun _ _ _ h => h) (Or.inl ⟨by rfl, ?_⟩) ?_ ?_
  rotate_left
  · intro w'
    go_simp
    with_reducible rfl
  rotate_left
  · simp only [Act.put, List.setIfInBounds_toArray, List.set_cons_zero, List.set_cons_succ, i64_w, i32_w]
    rfl
  try clear hHeld
  refine done_ (by kernel_rfl) ?_
  go_wp2_with fail
  go_ret
  exact ⟨rfl, ⟨s3, hM3⟩, (Keeps.refl _ _).drew.trans' hK3⟩

/-- What Log leaves: records in a row that is none of the object's. -/
def LogP (w : World) (R : PRef) (n : Nat) (E : PS) (e : Ending) (w' : World) : Prop :=
  ∃ v', e = .returned v' ∧ Own w' 39 7 v' E.now.log.length (E.now.log.flatMap recV) ∧ Fresh w.heap.size v' ∧ (∃ s', Mach w' R.bm R.vc R.vs ⟨cellsP n E, s'⟩) ∧ Keeps (machF R.bm R.vc R.vs) w w'

set_option maxRecDepth 100000 in
set_option maxHeartbeats 3200000 in
theorem ps_log {w : World} {base be n : Nat} {R : PRef} {E : PS} (h : PRep w base be R n E) (hr : E.rootv < E.vers.length) (hv : E.vers.length ≤ 1073741824) (hl : E.now.log.length ≤ 1073741824) :
    Calls Try.prog 17 #[.pointer (some ⟨be, 0, none⟩)] w (LogP w R n E) := by
  have hN := ps_now h hr hv
  obtain ⟨t0, vL, vl, vr, vg, hb, ⟨hvL, tvL⟩, ⟨hvl, tvl⟩, ⟨hvr, tvr⟩, hvg, tvg⟩ := h.ver _ hr
  have nB := h.nTag t0 (by simp)
  have nG : ∀ k, vg.ownBlock = some k → ¬ machF R.bm R.vc R.vs k := fun k hk => h.nTag (tvg k hk) (by simp)
  obtain ⟨ag, cg, evg⟩ := own_shape hvg
  subst evg
  have HN := Lib.hid hN
  have hnow : E.ver E.rootv = E.now := rfl
  rw [hnow] at hb hvg
  have HG := Lib.hid hvg
  have HNG := Lib.hid nG
  have hll := hl
  clear hN h hvL tvL hvl tvl hvr tvr hvg tvg nG hnow
  go_enter Try.func17, Try.ntmps17
  go_wp2_with fail
  refine HN.out.mono ?_
  rintro e w3 ⟨rfl, hs3, hK3⟩
  have hB3 := hb.keeps hK3 nB
  have c6 := hB3.cell 6
  have HG3 := Lib.hid (own_keeps HG.out hK3 HNG.out)
  have HS3 := Lib.hid hs3
  have HK3 := Lib.hid hK3
  clear hs3 hK3
  go_wp2_with fail
  refine (sl_clone_rec HG3.out hll).mono ?_
  rintro e w4 ⟨v', rfl, ho4, hf4, hb4⟩
  obtain ⟨a4, c4, rfl⟩ := own_shape ho4
  have k34 : Keeps (fun _ => False) w3 w4 := Keeps.ofBelow hb4
  have fin : LogP w R n E (.returned (.slice a4 E.now.log.length c4)) w4 := by
    obtain ⟨s', hM⟩ := HS3.out
    exact ⟨_, rfl, ho4, fun k hk => Nat.le_trans HK3.out.size (hf4 k hk), ⟨s', hM.keeps k34 (fun _ _ h => h)⟩, HK3.out.trans' (k34.mono (fun _ h => h.elim))⟩
  have HF := Lib.hid fin
  clear fin ho4 hf4 hb4 k34
  go_wp2_with fail
  go_ret
  exact HF.out

/-- What State leaves: a state whose numbers are its own. -/
def StateR (w : World) (R : PRef) (n : Nat) (E : PS) (e : Ending) (w' : World) : Prop :=
  ∃ v', e = .returned (.agg #[.int .i64 E.now.st.kind, v', .bool E.now.st.isSealed, .int .i64 E.now.st.to]) ∧ Own w' 3 1 v' E.now.st.L.length (ints E.now.st.L) ∧ Fresh w.heap.size v' ∧ (∃ s', Mach w' R.bm R.vc R.vs ⟨cellsP n E, s'⟩) ∧ Keeps (machF R.bm R.vc R.vs) w w'

set_option maxRecDepth 100000 in
set_option maxHeartbeats 3200000 in
theorem ps_state {w : World} {base be n : Nat} {R : PRef} {E : PS} (h : PRep w base be R n E) (hr : E.rootv < E.vers.length) (hv : E.vers.length ≤ 1073741824) (hl : E.now.st.L.length ≤ 300) :
    Calls Try.prog 20 #[.pointer (some ⟨be, 0, none⟩)] w (StateR w R n E) := by
  have hb1 : Below w.heap.size w (w.alloc (.cells #[.int .i64 0, .slice none 0 0, .bool false, .int .i64 0] 24)) := (Below.refl _ _).alloc (Nat.le_refl _) _
  have h1 := h.keeps (F := fun _ => False) (Keeps.ofBelow hb1) (by simp)
  have hN := ps_now h1 hr hv
  have hZ := Blk.new w #[.int .i64 0, .slice none 0 0, .bool false, .int .i64 0] 24
  obtain ⟨t0, vL, vl, vr, vg, hb, ⟨hvL, tvL⟩, ⟨hvl, tvl⟩, ⟨hvr, tvr⟩, hvg, tvg⟩ := h1.ver _ hr
  have nB := h1.nTag t0 (by simp)
  have nZ : ¬ machF R.bm R.vc R.vs w.heap.size := fun hf => by have := h.mach.lt hf; omega
  have nL : 0 < (E.ver E.rootv).st.L.length → ∀ k, vL.ownBlock = some k → ¬ machF R.bm R.vc R.vs k := fun h0 k hk hf => by
    have hm := h1.machT k hf
    rcases tvL h0 k hk with g | g
    · rw [hm] at g; simp at g
    · have := (h1.fresh k (by rw [hm]; simp)).1; omega
  obtain ⟨aL, cL, evL, _⟩ := id hvL
  subst evL
  have HN := Lib.hid hN
  have hnow : E.ver E.rootv = E.now := rfl
  rw [hnow] at hb hvL nL
  have HL := Lib.hid hvL
  have HNL := Lib.hid nL
  have HB1 := Lib.hid hb1
  have HS1 := Lib.hid (by simp : (w.alloc (.cells #[.int .i64 0, .slice none 0 0, .bool false, .int .i64 0] 24)).heap.size = w.heap.size + 1)
  clear hN h h1 hvL tvL hvl tvl hvr tvr hvg tvg nL hnow hb1
  go_enter Try.func20, Try.ntmps20
  go_wp2_with fail
  generalize w.alloc (.cells #[.int .i64 0, .slice none 0 0, .bool false, .int .i64 0] 24) = w1 at *
  refine HN.out.mono ?_
  rintro e w3 ⟨rfl, hs3, hK3⟩
  have hB3 := hb.keeps hK3 nB
  have hZ3 := hZ.keeps hK3 nZ
  have c0 : w3.cell? ⟨R.ver E.rootv, 0, none⟩ = some (.int .i64 E.now.st.kind) := hB3.cell 0
  have c1 : w3.cell? ⟨R.ver E.rootv, 1, none⟩ = some (.slice aL E.now.st.L.length cL) := hB3.cell 1
  have c2 : w3.cell? ⟨R.ver E.rootv, 2, none⟩ = some (.bool E.now.st.isSealed) := hB3.cell 2
  have c3 : w3.cell? ⟨R.ver E.rootv, 3, none⟩ = some (.int .i64 E.now.st.to) := hB3.cell 3
  have hR3 := rd_keeps HL.out hK3 HNL.out
  have HR3 := Lib.hid hR3
  have HS3 := Lib.hid hs3
  have HK3 := Lib.hid hK3
  have hzlt := hZ3.lt
  clear hs3 hK3 hR3
  go_wp2_with fail
  refine (sl_clone (HR3.out.alloc _) (by omega)).mono ?_
  rintro e w4 ⟨v', rfl, ho4, hf4, hb4⟩
  obtain ⟨a4, c4, rfl⟩ := own_shape ho4
  have hS4 := (Blk.new w3 #[.int .i64 E.now.st.kind, .slice aL E.now.st.L.length cL, .bool E.now.st.isSealed, .int .i64 E.now.st.to] 24).below hb4 (by simp)
  have hZ4 := (hZ3.alloc (.cells #[.int .i64 E.now.st.kind, .slice aL E.now.st.L.length cL, .bool E.now.st.isSealed, .int .i64 E.now.st.to] 24)).below hb4 (by simp; omega)
  have s0 := hS4.cell 0
  have s1 := hS4.cell 1
  have s2 := hS4.cell 2
  have s3 := hS4.cell 3
  have fs1 := hS4.frozen 1
  have z0 := hZ4.cell 0
  have z1 := hZ4.cell 1
  have z2 := hZ4.cell 2
  have z3 := hZ4.cell 3
  have fz0 := hZ4.frozen 0
  have fz1 := hZ4.frozen 1
  have fz2 := hZ4.frozen 2
  have fz3 := hZ4.frozen 3
  have hne : w3.heap.size ≠ w.heap.size := by omega
  have hne2 : w.heap.size ≠ w3.heap.size := by omega
  have HO4 := Lib.hid ho4
  have HF4 := Lib.hid hf4
  have HB4 := Lib.hid hb4
  clear ho4 hf4 hb4
  go_wp2_with fail
  refine bodyPost_ret (v := .agg #[.int .i64 E.now.st.kind, .slice a4 E.now.st.L.length c4, .bool E.now.st.isSealed, .int .i64 E.now.st.to]) ?_ rfl ?_
  · simp [results, Try.results20, go_sem, z0, z1, z2, z3]
  · obtain ⟨s', hM⟩ := HS3.out
    have n3 : ¬ machF R.bm R.vc R.vs w3.heap.size := fun hf => by have := hM.lt hf; omega
    have k34 : Keeps (fun _ => False) (w3.alloc (.cells #[.int .i64 E.now.st.kind, .slice aL E.now.st.L.length cL, .bool E.now.st.isSealed, .int .i64 E.now.st.to] 24)) w4 := Keeps.ofBelow HB4.out
    have h13 := HK3.out.size
    have h1s := HS1.out
    have hM4 := (hM.alloc _).keeps k34 (fun _ _ h => h)
    have o5 := own_set HO4.out hS4 (by decide) 1 (.slice a4 E.now.st.L.length c4)
    have Z5 := hZ4.other (a := ⟨w3.heap.size, 1, none⟩) hne2 (.slice a4 E.now.st.L.length c4)
    have o6 := own_set o5 Z5 (by decide) 0 (.int .i64 E.now.st.kind)
    have Z6 := Z5.set 0 (.int .i64 E.now.st.kind)
    have o7 := own_set o6 Z6 (by decide) 1 (.slice a4 E.now.st.L.length c4)
    have Z7 := Z6.set 1 (.slice a4 E.now.st.L.length c4)
    have o8 := own_set o7 Z7 (by decide) 2 (.bool E.now.st.isSealed)
    have Z8 := Z7.set 2 (.bool E.now.st.isSealed)
    have o9 := own_set o8 Z8 (by decide) 3 (.int .i64 E.now.st.to)
    have k0 : Keeps (machF R.bm R.vc R.vs) w w4 := (((Keeps.ofBelow HB1.out).trans' HK3.out).alloc _).trans' (k34.mono (fun _ h => h.elim))
    refine ⟨_, rfl, o9, fun k hk => ?_, ⟨s', ((((hM4.other n3 _).other nZ _).other nZ _).other nZ _).other nZ _⟩, ?_⟩
    · have := HF4.out k hk
      simp at this
      omega
    · exact ((((k0.set w3.heap.size 1 (.inr (by omega)) _).set w.heap.size 0 (.inr (Nat.le_refl _)) _).set w.heap.size 1 (.inr (Nat.le_refl _)) _).set w.heap.size 2 (.inr (Nat.le_refl _)) _).set w.heap.size 3 (.inr (Nat.le_refl _)) _
end Go.Proofs.Ytjfenjnnpikkdaa
/- Package psim: an object in memory, made of its parts. -/
namespace Go.Proofs.Ytjfenjnnpikkdaa
set_option linter.unusedVariables false
set_option maxRecDepth 100000
set_option linter.unusedSimpArgs false
open Go.RowKit

abbrev newPr : Pr := ⟨0, 0, .idle, 0, 0, 0, []⟩
structure NewParts (w : World) (base be n : Nat) (bm : Nat) (vc vs : Value) (steps : List Int) (vp va vv vl vr vL : Value) (pa : Nat → Nat) (vb : Nat) (start : St) : Prop where
  small : 0 < n ∧ n ≤ 64
  eng : Blk w be #[ptrV bm, .int .i64 0, .int .i64 n, vp, va, vv] 76
  engG : base ≤ be
  mach : Mach w bm vc vs ⟨List.replicate (n + 1) 0, steps⟩
  machG : ∀ k, machF bm vc vs k → base ≤ k
  procs : Own w 78 1 vp n ((List.range n).map fun p => ptrV (pa p))
  procsG : Fresh base vp
  proc : ∀ p, p < n → Blk w (pa p) (procV be p newPr 0 .nilFunc (.slice none 0 0)) 81
  procG : ∀ p, p < n → base ≤ pa p
  inj : ∀ p q, p < n → q < n → pa p = pa q → p = q
  asked : Own w 91 5 va 1 (askedV noAsked)
  askedG : Fresh base va
  vers : Own w 82 1 vv 1 [ptrV vb]
  versG : Fresh base vv
  ver : Blk w vb #[.int .i64 start.kind, vL, .bool start.isSealed, .int .i64 start.to, vl, vr, .slice none 0 0] 84
  verG : base ≤ vb
  rdL : Rd w vL start.L
  ltL : 0 < start.L.length → ∀ k, vL.ownBlock = some k → k < base
  ol : Own w 3 1 vl n (List.replicate n (.int .i64 0))
  lG : Fresh base vl
  or : Own w 3 1 vr n (List.replicate n (.int .i64 0))
  rG : Fresh base vr
  dl : ∀ k, vl.ownBlock = some k → ¬ machF bm vc vs k
  dr : ∀ k, vr.ownBlock = some k → ¬ machF bm vc vs k

open Classical in
noncomputable def newOwn (be n bm : Nat) (vc vs vp va vv vl vr : Value) (pa : Nat → Nat) (vb : Nat) (k : Nat) : Option Tag :=
  if machF bm vc vs k then some .mach
  else if vl.ownBlock = some k ∨ vr.ownBlock = some k ∨ k = vb then some .imm
  else if h : ∃ q, q < n ∧ pa q = k then some (.proc h.choose)
  else if k = be ∨ vp.ownBlock = some k ∨ va.ownBlock = some k ∨ vv.ownBlock = some k then some .eng
  else none

theorem rangeI_const (n : Nat) (f : Nat → Int) (h : ∀ q, f q = 0) : rangeI n f = List.replicate n (.int .i64 0) := by
  apply List.ext_getElem?
  intro i
  by_cases hi : i < n
  · simp [ints, hi, h]
  · simp [ints, hi]
theorem blk_ne {w : World} {b b' : Nat} {cs cs' : Array Value} {T T' : TypeId} (h : Blk w b cs T) (h' : Blk w b' cs' T') (hne : T ≠ T') : b ≠ b' := fun e => by
  subst e
  unfold Blk at h h'
  rw [h] at h'
  injection h' with h'
  injection h' with _ ht
  exact hne ht
theorem NewParts.rep {w : World} {base be n bm : Nat} {vc vs vp va vv vl vr vL : Value} {steps : List Int} {pa : Nat → Nat} {vb : Nat} {start : St} (h : NewParts w base be n bm vc vs steps vp va vv vl vr vL pa vb start) :
    PRep w base be ⟨bm, vc, vs, steps, vp, va, vv, pa, fun _ => .slice none 0 0, fun _ => 0, fun _ => vb, newOwn be n bm vc vs vp va vv vl vr pa vb⟩ n (PS.new start) := by
  -- who is not of the machine
  have mB : ∀ {b : Nat} {cs : Array Value} {T : TypeId}, Blk w b cs T → T ≠ 108 → T ≠ 3 → ¬ machF bm vc vs b := by
    intro b cs T hb h1 h2 hf
    rcases hf with rfl | hf | hf
    · exact blk_ne hb h.mach.blk h1 rfl
    · exact own_blk_ne h.mach.cells hb (fun e => h2 e.symm) hf
    · exact own_blk_ne h.mach.steps hb (fun e => h2 e.symm) hf
  have mO : ∀ {e : TypeId} {s m : Nat} {v : Value} {xs : List Value} {k : Nat}, Own w e s v m xs → e ≠ 108 → e ≠ 3 → v.ownBlock = some k → ¬ machF bm vc vs k := by
    intro e s m v xs k ho h1 h2 hk hf
    rcases hf with rfl | hf | hf
    · exact own_blk_ne ho h.mach.blk h1 hk
    · exact own_type_ne ho h.mach.cells h2 hk hf
    · exact own_type_ne ho h.mach.steps h2 hk hf
  have iB : ∀ {b : Nat} {cs : Array Value} {T : TypeId}, Blk w b cs T → T ≠ 84 → T ≠ 3 → ¬ (vl.ownBlock = some b ∨ vr.ownBlock = some b ∨ b = vb) := by
    intro b cs T hb h1 h2 hf
    rcases hf with hf | hf | hf
    · exact own_blk_ne h.ol hb (fun e => h2 e.symm) hf
    · exact own_blk_ne h.or hb (fun e => h2 e.symm) hf
    · exact blk_ne hb h.ver h1 hf
  have iO : ∀ {e : TypeId} {s m : Nat} {v : Value} {xs : List Value} {k : Nat}, Own w e s v m xs → e ≠ 84 → e ≠ 3 → v.ownBlock = some k → ¬ (vl.ownBlock = some k ∨ vr.ownBlock = some k ∨ k = vb) := by
    intro e s m v xs k ho h1 h2 hk hf
    rcases hf with hf | hf | hf
    · exact own_type_ne ho h.ol h2 hk hf
    · exact own_type_ne ho h.or h2 hk hf
    · subst hf; exact own_blk_ne ho h.ver h1 hk
  have pB : ∀ {b : Nat} {cs : Array Value} {T : TypeId}, Blk w b cs T → T ≠ 81 → ¬ ∃ q, q < n ∧ pa q = b := by
    rintro b cs T hb h1 ⟨q, hq, rfl⟩
    exact blk_ne hb (h.proc q hq) h1 rfl
  have pO : ∀ {e : TypeId} {s m : Nat} {v : Value} {xs : List Value} {k : Nat}, Own w e s v m xs → e ≠ 81 → v.ownBlock = some k → ¬ ∃ q, q < n ∧ pa q = k := by
    rintro e s m v xs k ho h1 hk ⟨q, hq, rfl⟩
    exact own_blk_ne ho (h.proc q hq) h1 hk
  generalize hown : newOwn be n bm vc vs vp va vv vl vr pa vb = own
  have tM : ∀ k, machF bm vc vs k → own k = some .mach := fun k hk => by subst hown; unfold newOwn; rw [if_pos hk]
  have tI : ∀ k, ¬ machF bm vc vs k → (vl.ownBlock = some k ∨ vr.ownBlock = some k ∨ k = vb) → own k = some .imm := fun k h1 h2 => by subst hown; unfold newOwn; rw [if_neg h1, if_pos h2]
  have tP : ∀ p, p < n → own (pa p) = some (.proc p) := fun p hp => by
    subst hown; unfold newOwn
    have hx : ∃ q, q < n ∧ pa q = pa p := ⟨p, hp, rfl⟩
    rw [if_neg (mB (h.proc p hp) (by decide) (by decide)), if_neg (iB (h.proc p hp) (by decide) (by decide)), dif_pos hx]
    have := hx.choose_spec
    rw [h.inj _ p this.1 hp this.2]
  have tE : ∀ k, ¬ machF bm vc vs k → ¬ (vl.ownBlock = some k ∨ vr.ownBlock = some k ∨ k = vb) → (¬ ∃ q, q < n ∧ pa q = k) → (k = be ∨ vp.ownBlock = some k ∨ va.ownBlock = some k ∨ vv.ownBlock = some k) → own k = some .eng := fun k h1 h2 h3 h4 => by
    subst hown; unfold newOwn; rw [if_neg h1, if_neg h2, dif_neg h3, if_pos h4]
  have hfresh : ∀ k, own k ≠ none → base ≤ k ∧ k < w.heap.size := by
    intro k hk
    subst hown
    unfold newOwn at hk
    split at hk
    · rename_i h1; exact ⟨h.machG k h1, h.mach.lt h1⟩
    · split at hk
      · rename_i h1
        rcases h1 with h1 | h1 | h1
        · exact ⟨h.lG k h1, own_lt h.ol h1⟩
        · exact ⟨h.rG k h1, own_lt h.or h1⟩
        · subst h1; exact ⟨h.verG, h.ver.lt⟩
      · split at hk
        · rename_i h1
          obtain ⟨q, hq, rfl⟩ := h1
          exact ⟨h.procG q hq, (h.proc q hq).lt⟩
        · split at hk
          · rename_i h1
            rcases h1 with h1 | h1 | h1 | h1
            · subst h1; exact ⟨h.engG, h.eng.lt⟩
            · exact ⟨h.procsG k h1, own_lt h.procs h1⟩
            · exact ⟨h.askedG k h1, own_lt h.asked h1⟩
            · exact ⟨h.versG k h1, own_lt h.vers h1⟩
          · simp at hk
  have ecells : cellsP n (PS.new start) = List.replicate (n + 1) 0 := by
    apply List.ext_getElem?
    intro i
    unfold cellsP PS.new
    by_cases hi : i < n
    · rw [List.getElem?_append_left (by simpa using hi)]
      simp [hi, show i < n + 1 by omega]
    · rw [List.getElem?_append_right (by simpa using hi)]
      by_cases e : i = n
      · subst e; simp
      · simp [show ¬ i < n + 1 by omega]; omega
  refine ⟨h.small, hfresh, h.eng, tE be (mB h.eng (by decide) (by decide)) (iB h.eng (by decide) (by decide)) (pB h.eng (by decide)) (.inl rfl), by rw [ecells]; exact h.mach, tM, h.procs, ?_, ?_, h.asked, ?_, h.vers, ?_, ?_⟩
  · exact fun k hk => tE k (mO h.procs (by decide) (by decide) hk) (iO h.procs (by decide) (by decide) hk) (pO h.procs (by decide) hk) (.inr (.inl hk))
  · intro p hp
    exact ⟨tP p hp, h.proc p hp, World.ownsRow_nil .., by simp [Value.ownBlock]⟩
  · exact fun k hk => tE k (mO h.asked (by decide) (by decide) hk) (iO h.asked (by decide) (by decide) hk) (pO h.asked (by decide) hk) (.inr (.inr (.inl hk)))
  · exact fun k hk => tE k (mO h.vers (by decide) (by decide) hk) (iO h.vers (by decide) (by decide) hk) (pO h.vers (by decide) hk) (.inr (.inr (.inr hk)))
  · intro i hi
    have e0 : i = 0 := by simp [PS.new] at hi; omega
    subst e0
    refine ⟨tI vb (mB h.ver (by decide) (by decide)) (.inr (.inr rfl)), vL, vl, vr, .slice none 0 0, h.ver, ⟨h.rdL, fun h0 k hk => .inr (h.ltL h0 k hk)⟩, ⟨?_, fun k hk => tI k (h.dl k hk) (.inl hk)⟩, ⟨?_, fun k hk => tI k (h.dr k hk) (.inr (.inl hk))⟩, World.ownsRow_nil .., by simp [Value.ownBlock]⟩
    · rw [rangeI_const n (fun q => (((PS.new start).ver 0).last q : Int)) (fun q => rfl)]; exact h.ol
    · rw [rangeI_const n ((PS.new start).ver 0).resp (fun q => rfl)]; exact h.or
end Go.Proofs.Ytjfenjnnpikkdaa
