/-
  Package slices at records: Clone; what the walks of a copy know.
-/
import Derived.Test.YtjfenjnnpikkdaaWLast
import Derived.Maps.AppendAt
import Derived.Laws.OwnMore
import Derived.WalkSpells
import Derived.Test.YtjfenjnnpikkdaaKa
import Derived.Test.YtjfenjnnpikkdaaKad
import Derived.Test.YtjfenjnnpikkdaaKba
import Derived.Test.YtjfenjnnpikkdaaKc
set_option linter.unusedVariables false
set_option linter.unusedSimpArgs false
namespace Go.Proofs.Ytjfenjnnpikkdaa
set_option maxRecDepth 100000
open Go.RowKit

theorem infoRec : (Try.prog.info? 39).map (fun i => (i.zero, i.size, i.bytes)) = some (some (.agg #[.int .i64 0, .int .i64 0, .int .i64 0, .int .i64 0, .int .i64 0, .int .i64 0, .int .i64 0]), 7, 56) := by kernel_rfl
theorem recs_len (l : List Rec) : (l.flatMap recV).length = l.length * 7 := by
  induction l with
  | nil => rfl
  | cons r l ih => simp [List.flatMap_cons, recV, ih]; omega
/-- A copy that is being made, since w. -/
structure VMid (w w' : World) (n b : Nat) (v0 vL vl vr vg : Value) (V : Ver) : Prop where
  bel : Below w.heap.size w w'
  ge : w.heap.size ≤ b
  blk : Blk w' b #[.int .i64 V.st.kind, vL, .bool V.st.isSealed, .int .i64 V.st.to, vl, vr, vg] 84
  rdL : Rd w' vL V.st.L
  lenL : V.st.L.length ≤ 300
  orL : vL = v0 ∨ (Own w' 3 1 vL V.st.L.length (ints V.st.L) ∧ Fresh w.heap.size vL ∧ ∀ k, vL.ownBlock = some k → vl.ownBlock ≠ some k ∧ vr.ownBlock ≠ some k)
  lt0 : ∀ a m c, v0 = .slice a m c → 0 < m → ∀ k, v0.ownBlock = some k → k < w.heap.size
  ol : Own w' 3 1 vl n (rangeI n fun q => (V.last q : Int))
  fl : Fresh w.heap.size vl
  or : Own w' 3 1 vr n (rangeI n V.resp)
  fr : Fresh w.heap.size vr
  og : Own w' 39 7 vg V.log.length (V.log.flatMap recV)
  fg : Fresh w.heap.size vg
  d1 : ∀ k, vl.ownBlock = some k → vr.ownBlock ≠ some k
  d2 : 0 < V.st.L.length → ∀ k, vl.ownBlock = some k → vL.ownBlock ≠ some k
  d3 : 0 < V.st.L.length → ∀ k, vr.ownBlock = some k → vL.ownBlock ≠ some k
theorem VMid.below {w wr W : World} {n b : Nat} {v0 vL vl vr vg : Value} {V : Ver} (h : VMid w wr n b v0 vL vl vr vg V) (hB : Below wr.heap.size wr W) : VMid w W n b v0 vL vl vr vg V := by
  have k := Keeps.ofBelow (F := fun _ => False) hB
  exact ⟨h.bel.trans (hB.mono h.bel.size), h.ge, h.blk.below hB h.blk.lt, h.rdL.below hB (Nat.le_refl _), h.lenL, h.orL.imp id (fun g => ⟨own_keeps g.1 k (by simp), g.2⟩), h.lt0, own_keeps h.ol k (by simp), h.fl, own_keeps h.or k (by simp), h.fr, own_keeps h.og k (by simp), h.fg, h.d1, h.d2, h.d3⟩
theorem rangeI_set (n p : Nat) (f : Nat → Int) (v : Int) (hp : p < n) : (rangeI n f).set p (.int .i64 v) = rangeI n (fun q => if q = p then v else f q) := by
  apply List.ext_getElem?
  intro i
  rw [List.getElem?_set]
  by_cases e : p = i
  · subst e
    simp [ints, hp]
  · rw [if_neg e]
    by_cases hi : i < n
    · have e' : ¬ i = p := fun h => e h.symm
      simp [ints, hi, e']
    · simp [ints, hi]
theorem upd_cast (f : Nat → Nat) (p a : Nat) : (fun q => ((upd f p a q : Nat) : Int)) = fun q => if q = p then (a : Int) else (f q : Int) := by
  funext q; unfold upd; split <;> rfl
theorem upd_fun (f : Nat → Int) (p : Nat) (a : Int) : upd f p a = fun q => if q = p then a else f q := rfl
theorem rd_len {w w' : World} {v : Value} {xs ys : List Int} (h : Rd w v xs) (h' : Rd w' v ys) : xs.length = ys.length := by
  obtain ⟨a, c, e, _⟩ := h
  obtain ⟨a', c', e', _⟩ := h'
  rw [e] at e'
  injection e'
/-- A round of 'with': o the operation's block, br the record's. -/
theorem VMid.round {w w2 w3 w4 w5 w6 : World} {n b br gl gr cl cr a : Nat} {v0 vL vg vn vg' : Value} {V : Ver} {r : Asked} {A : Nat → Asked} {o : Obj} {cs rs : Array Value} {B4 : Array Value}
    (hM : VMid w w2 n b v0 vL (.slice (some ⟨gl, 0, none⟩) n cl) (.slice (some ⟨gr, 0, none⟩) n cr) vg V) (hA : A a = r) (hp : r.proc < n) (hbr : w.heap.size ≤ br) (hbb : br ≠ b) (hR : Blk w2 br rs 39) (hgb : vg.ownBlock ≠ some br)
    (rdn : Rd w3 vn (stepS V.st r.op).1.L) (hlen : (stepS V.st r.op).1.L.length ≤ 300) (bel : Below w2.heap.size w2 w3) (orn : vn = vL ∨ (Own w3 3 1 vn (stepS V.st r.op).1.L.length (ints (stepS V.st r.op).1.L) ∧ Fresh w2.heap.size vn))
    (hw4 : Keeps (fun k => k = b ∨ k = br) w3 w4) (hB4 : Blk w4 b B4 84) (hR4 : Blk w4 br cs 39)
    (hw5 : w5 = (w4.setCell ⟨gl, r.proc, none⟩ (.int .i64 (a : Nat))).setCell ⟨gr, r.proc, none⟩ (.int .i64 (stepS V.st r.op).2))
    (hgrow : (w5.alloc o).grownBy w6 vg.ownBlock) (hown : Own w6 39 7 vg' (V.log.length + 1) (V.log.flatMap recV ++ recV ⟨V.log.length, r.proc, r.many, r.op, (stepS V.st r.op).2⟩)) (hat : vg'.ownBlock = vg.ownBlock ∨ vg'.ownBlock = some (w5.alloc o).heap.size)
    (hB7 : Blk (w6.setCell ⟨b, 6, none⟩ vg') b #[.int .i64 (stepS V.st r.op).1.kind, vn, .bool (stepS V.st r.op).1.isSealed, .int .i64 (stepS V.st r.op).1.to, .slice (some ⟨gl, 0, none⟩) n cl, .slice (some ⟨gr, 0, none⟩) n cr, vg'] 84) :
    VMid w (w6.setCell ⟨b, 6, none⟩ vg') n b v0 vn (.slice (some ⟨gl, 0, none⟩) n cl) (.slice (some ⟨gr, 0, none⟩) n cr) vg' (V.one A a) := by
  have hgl : w.heap.size ≤ gl := hM.fl gl rfl
  have hgr : w.heap.size ≤ gr := hM.fr gr rfl
  have hne : gl ≠ gr := fun e => hM.d1 gl rfl (by rw [e]; rfl)
  have k23 : Keeps (fun _ => False) w2 w3 := Keeps.ofBelow bel
  have k45 : Keeps (fun k => k = gl ∨ k = gr) w4 w5 := by
    rw [hw5]; exact ((Keeps.refl _ _).set gl _ (.inl (.inl rfl)) _).set gr _ (.inl (.inr rfl)) _
  have k56 : Keeps (fun k => vg.ownBlock = some k) w5 w6 := ((Keeps.refl _ w5).alloc o).grown hgrow (fun k hk => .inl hk)
  have k67 : Keeps (fun k => k = b) w6 (w6.setCell ⟨b, 6, none⟩ vg') := Keeps.one _ ⟨b, 6, none⟩ _
  have z0 := hM.bel.size
  have z2 := k23.size; have z3 := hw4.size; have z4 := k45.size; have z5 := k56.size
  have hls : (w5.alloc o).heap.size = w5.heap.size + 1 := by simp
  -- rows
  have l3 := own_keeps hM.ol k23 (by simp)
  have r3 := own_keeps hM.or k23 (by simp)
  have g3 := own_keeps hM.og k23 (by simp)
  have B3 := hM.blk.keeps k23 (by simp)
  have R3 := hR.keeps k23 (by simp)
  have far : ∀ {e : TypeId} {s m : Nat} {v : Value} {xs : List Value}, Own w3 e s v m xs → e ≠ 84 → e ≠ 39 → Own w4 e s v m xs := fun h h1 h2 => own_keeps h hw4 (fun q hq hf => by
    rcases hf with rfl | rfl
    · exact own_blk_ne h B3 h1 hq
    · exact own_blk_ne h R3 h2 hq)
  have l4 := far l3 (by decide) (by decide)
  have r4 := far r3 (by decide) (by decide)
  have g4 : Own w4 39 7 vg V.log.length (V.log.flatMap recV) := own_keeps g3 hw4 (fun q hq hf => by
    rcases hf with rfl | rfl
    · exact own_blk_ne g3 B3 (by decide) hq
    · exact hgb hq)
  have hbl : gl ≠ b := fun e => own_blk_ne l4 hB4 (by decide) (by rw [← e]; rfl)
  have hbr' : gr ≠ b := fun e => own_blk_ne r4 hB4 (by decide) (by rw [← e]; rfl)
  have B5 : Blk w5 b B4 84 := hB4.keeps k45 (by rintro (e | e); exact hbl e.symm; exact hbr' e.symm)
  have hgvb : vg.ownBlock ≠ some b := own_blk_ne g4 hB4 (by decide)
  have B6 : Blk w6 b B4 84 := B5.keeps k56 hgvb
  have gty : ∀ {s m : Nat} {v : Value} {xs : List Value}, Own w4 3 s v m xs → ∀ k, v.ownBlock = some k → vg.ownBlock ≠ some k := fun h k hk => own_type_ne h g4 (by decide) hk
  have to7 : ∀ {m : Nat} {v : Value} {xs : List Value}, Own w5 3 1 v m xs → (∀ k, v.ownBlock = some k → vg.ownBlock ≠ some k) → Own (w6.setCell ⟨b, 6, none⟩ vg') 3 1 v m xs := fun h1 h2 => by
    have h6 := own_keeps h1 k56 (fun q hq hf => h2 q hq hf)
    exact own_keeps h6 k67 (fun q hq hf => own_blk_ne h6 B6 (by decide) (by rw [hq, hf]))
  have l5 : Own w5 3 1 (.slice (some ⟨gl, 0, none⟩) n cl) n (rangeI n fun q => ((upd V.last r.proc a q : Nat) : Int)) := by
    rw [hw5, upd_cast, ← rangeI_set n r.proc (fun q => (V.last q : Int)) a hp]
    exact own_keeps (World.ownsRow.stored l4 r.proc _).1 (Keeps.one _ ⟨gr, r.proc, none⟩ _) (fun q hq hf => hne (by simp [Value.ownBlock] at hq; rw [hq, hf]))
  have r5 : Own w5 3 1 (.slice (some ⟨gr, 0, none⟩) n cr) n (rangeI n (upd V.resp r.proc (stepS V.st r.op).2)) := by
    rw [hw5, upd_fun, ← rangeI_set n r.proc V.resp _ hp]
    have := own_keeps r4 (Keeps.one w4 ⟨gl, r.proc, none⟩ (.int .i64 (a : Nat))) (fun q hq hf => hne (by simp [Value.ownBlock] at hq; rw [hq, hf]))
    exact (World.ownsRow.stored this r.proc _).1
  -- the state's numbers
  have hcase : (vn = v0 ∨ (Own w3 3 1 vn (stepS V.st r.op).1.L.length (ints (stepS V.st r.op).1.L) ∧ Fresh w.heap.size vn ∧ ∀ k, vn.ownBlock = some k → k ≠ gl ∧ k ≠ gr)) ∧ (0 < (stepS V.st r.op).1.L.length → ∀ k, vn.ownBlock = some k → k ≠ gl ∧ k ≠ gr) := by
    rcases orn with e | ⟨e, hf⟩
    · subst e
      have hl := rd_len rdn hM.rdL
      have gg : 0 < (stepS V.st r.op).1.L.length → ∀ k, vn.ownBlock = some k → k ≠ gl ∧ k ≠ gr := fun h0 k hk => ⟨fun h => hM.d2 (by omega) gl rfl (h ▸ hk), fun h => hM.d3 (by omega) gr rfl (h ▸ hk)⟩
      refine ⟨?_, gg⟩
      rcases hM.orL with h | ⟨h1, h2, h4⟩
      · exact .inl h
      · have h3 := own_keeps h1 k23 (by simp)
        have e := rd_inj rdn (own_rd h3)
        rw [e]
        exact .inr ⟨h3, h2, fun k hk => ⟨fun h => (h4 k hk).1 (by rw [h]; rfl), fun h => (h4 k hk).2 (by rw [h]; rfl)⟩⟩
    · have hlg := own_lt hM.ol (k := gl) rfl
      have hlr := own_lt hM.or (k := gr) rfl
      have gg : ∀ k, vn.ownBlock = some k → k ≠ gl ∧ k ≠ gr := fun k hk => ⟨by have := hf k hk; omega, by have := hf k hk; omega⟩
      exact ⟨.inr ⟨e, fun k hk => Nat.le_trans z0 (hf k hk), gg⟩, fun _ => gg⟩
  obtain ⟨hor, hgg⟩ := hcase
  have hgvn : 0 < (stepS V.st r.op).1.L.length → ∀ k, vn.ownBlock = some k → k ≠ b ∧ k ≠ br ∧ vg.ownBlock ≠ some k := by
    intro h0 k hk
    rcases hor with e | ⟨e, _⟩
    · obtain ⟨x, c, e2, _⟩ := id rdn
      have hlt := hM.lt0 _ _ _ (e ▸ e2) h0 k (e ▸ hk)
      refine ⟨by have := hM.ge; omega, by omega, fun e => ?_⟩
      have := hM.fg k e; omega
    · have e4 := far e (by decide) (by decide)
      refine ⟨fun h => own_blk_ne e B3 (by decide) (h ▸ hk), fun h => own_blk_ne e R3 (by decide) (h ▸ hk), gty e4 k hk⟩
  subst hA
  refine ⟨?_, hM.ge, hB7, ?_, hlen, ?_, hM.lt0, to7 l5 (gty l4), hM.fl, to7 r5 (gty r4), hM.fr, ?_, ?_, hM.d1, ?_, ?_⟩
  · refine (((((hM.bel.trans (k23.below (B := w.heap.size) (by simp) z0)).trans (hw4.below (by rintro k (rfl | rfl); exact hM.ge; exact hbr) (by omega))).trans (k45.below (by rintro k (rfl | rfl); exact hgl; exact hgr) (by omega))).trans (k56.below (fun k hk => hM.fg k hk) (by omega))).trans (k67.below (by rintro k rfl; exact hM.ge) (by omega)))
  · have q4 := rd_keeps rdn hw4 (fun h0 k hk hf => by have := hgvn h0 k hk; rcases hf with e | e; exact this.1 e; exact this.2.1 e)
    have q5 := rd_keeps q4 k45 (fun h0 k hk hf => by have := hgg h0 k hk; rcases hf with e | e; exact this.1 e; exact this.2 e)
    have q6 := rd_keeps q5 k56 (fun h0 k hk hf => (hgvn h0 k hk).2.2 hf)
    exact rd_keeps q6 k67 (fun h0 k hk hf => (hgvn h0 k hk).1 hf)
  · refine hor.imp id fun ⟨e, hf, hgo⟩ => ⟨?_, hf, fun k hk => ⟨fun h => (hgo k hk).1 (by simp [Value.ownBlock] at h; exact h.symm), fun h => (hgo k hk).2 (by simp [Value.ownBlock] at h; exact h.symm)⟩⟩
    have e4 := far e (by decide) (by decide)
    exact to7 (own_keeps e4 k45 (fun q hq hf => by have := hgo q hq; rcases hf with h | h; exact this.1 h; exact this.2 h)) (gty e4)
  · have h7 := own_keeps hown k67 (fun q hq hf => own_blk_ne hown B6 (by decide) (by rw [hq, hf]))
    have e1 : (V.one A a).log.length = V.log.length + 1 := by simp [Ver.one]
    have e2 : (V.one A a).log.flatMap recV = V.log.flatMap recV ++ recV ⟨V.log.length, (A a).proc, (A a).many, (A a).op, (stepS V.st (A a).op).2⟩ := by simp [Ver.one]
    rw [e1, e2]
    exact h7
  · intro k hk
    rcases hat with e | e
    · exact hM.fg k (e ▸ hk)
    · rw [e] at hk; injection hk with hk; omega
  · intro h0 k hk e
    simp [Value.ownBlock] at hk
    exact (hgg h0 k e).1 hk.symm
  · intro h0 k hk e
    simp [Value.ownBlock] at hk
    exact (hgg h0 k e).2 hk.symm
end Go.Proofs.Ytjfenjnnpikkdaa
/- Steps of a region that draws its order: an append onto a row of the program's own. -/
namespace Go.Proofs.Ytjfenjnnpikkdaa
set_option maxRecDepth 100000
open Go.RowKit
open Go.Proofs.YtjfenjnnpikkdaaW.PrintLast
section
variable {P : Program} {ops : Array Oper} {Q : Exit → Act → World → Prop}
theorem append_own_ {oi : Oper} {N : Option Tmp} {a : Act} {w : World} {K : Act → World → Prop} (hg : oi.guard = none) (hN : oi.dst = N) (s x : Operand) (t : TypeId)
    (ho : oi.op = .call { callee := .builtin .append, args := #[s, x], argTypes := #[t, t] })
    (e : TypeId) (z : Value) (size bytes : Nat) (ht : P.underlying t = some (.slice e)) (hinfo : (P.info? e).map (fun i => (i.zero, i.size, i.bytes)) = some (some z, size, bytes)) (hzs : z.cells.size = size) (hsz : 0 < size)
    (v : Value) (n : Nat) (xs : List Value) (hs : a.eval s = v) (hown : Own w e size v n xs)
    (ad : Addr) (m c : Nat) (news : List Value) (hx : a.eval x = .slice (some ad) m c) (hl : news.length = m * size) (hnews : ∀ j u, news[j]? = some u → w.cell? (ad.add j) = some u) (h1 : ∀ u ∈ news, u.oneCell' = true)
    (h63 : n + m ≤ 1073741824) (hb : bytes ≤ 4096)
    (h : ∀ v' w', Own w' e size v' (n + m) (xs ++ news) → w.grownBy w' v.ownBlock → (v'.ownBlock = v.ownBlock ∨ v'.ownBlock = some w.heap.size) → K (a.put N v') w') :
    if Region.wanted oi (yielded ops a.tmps) = true then Oper.wp P oi a w K Q else K (a.put N undef) w := by
  obtain ⟨i, hi, hz, hsize, hby⟩ := info_parts hinfo
  have hbytes : (n + m) * bytes ≤ 140737488355328 := by
    have := Nat.mul_le_mul h63 hb
    omega
  obtain ⟨v', w', hr, h2, h3, h4, h5⟩ := run_append_own_at (P := P) w 0 t oi.type e i z size bytes ht hi hz hsize hby hzs hsz v n xs hown ad m c news hl hnews h1 (by simp only [maxLen]; omega) hbytes (Nat.zero_le _)
  refine value_ (w1 := w') (v := v') ?_ hN ?_ (h v' w' h2 h3 h5)
  · unfold Region.wanted; rw [hg]
  · unfold execOp
    simp only [ho, resolve, invoke, builtin, Sem.run_bind, Sem.run_pure, Result.andThen_ok, List.map_toArray, List.map_cons, List.map_nil, hs, hx, hr]
end
theorem cells_new (w : World) (cs : List Value) (t : TypeId) : ∀ j u, cs[j]? = some u → (w.alloc (.cells cs.toArray t)).cell? ((⟨w.heap.size, 0, none⟩ : Addr).add j) = some u := by
  intro j u hj
  have hb := Blk.new w cs.toArray t
  rw [show (⟨w.heap.size, 0, none⟩ : Addr).add j = ⟨w.heap.size, j, none⟩ by unfold Addr.add; split <;> simp_all, hb.cell]
  simpa using hj
end Go.Proofs.Ytjfenjnnpikkdaa
/- Package psim: with. -/
namespace Go.Proofs.Ytjfenjnnpikkdaa
set_option maxRecDepth 100000
open Go.RowKit
open Go.Proofs.YtjfenjnnpikkdaaW.PrintLast

/-- What 'with' is told. -/
structure WithIn (w : World) (n vb be : Nat) (vL vl vr vg vt va x0 x1 x2 x3 x5 : Value) (V : Ver) (A : List Asked) (todo : List Nat) : Prop where
  blk : Blk w vb #[.int .i64 V.st.kind, vL, .bool V.st.isSealed, .int .i64 V.st.to, vl, vr, vg] 84
  rdL : Rd w vL V.st.L
  lenL : V.st.L.length ≤ 300
  ol : Own w 3 1 vl n (rangeI n fun q => (V.last q : Int))
  or : Own w 3 1 vr n (rangeI n V.resp)
  og : Own w 39 7 vg V.log.length (V.log.flatMap recV)
  len : V.log.length + todo.length ≤ 1073741824
  eng : Blk w be #[x0, x1, x2, x3, va, x5] 76
  asked : Own w 91 5 va A.length (A.flatMap askedV)
  tt : Own w 3 1 vt todo.length (ints (natI todo))
  lt : ∀ a ∈ todo, a < A.length ∧ (A.getD a noAsked).proc < n
  small : 0 < n ∧ n ≤ 64

theorem asked_at : ∀ (l : List Asked) (a : Nat), a < l.length → (l.flatMap askedV)[a * 5]? = some (.int .i64 (l.getD a noAsked).proc) ∧ (l.flatMap askedV)[a * 5 + 1]? = some (.int .i64 (l.getD a noAsked).many) ∧
    (l.flatMap askedV)[a * 5 + 2]? = some (.int .i64 (l.getD a noAsked).op.code) ∧ (l.flatMap askedV)[a * 5 + 3]? = some (.int .i64 (l.getD a noAsked).op.a) ∧ (l.flatMap askedV)[a * 5 + 4]? = some (.int .i64 (l.getD a noAsked).op.b)
  | r :: l, 0, _ => by simp [List.flatMap_cons, askedV]
  | r :: l, a + 1, h => by
    have ih := asked_at l a (by simpa using h)
    have e : (r :: l).flatMap askedV = askedV r ++ l.flatMap askedV := by simp [List.flatMap_cons]
    have e2 : ∀ j, ((r :: l).flatMap askedV)[(a + 1) * 5 + j]? = (l.flatMap askedV)[a * 5 + j]? := fun j => by
      rw [e, List.getElem?_append_right (by simp [askedV]; omega)]
      congr 1
      simp [askedV]; omega
    have e3 : (r :: l).getD (a + 1) noAsked = l.getD a noAsked := by simp
    rw [e3]
    exact ⟨by rw [← ih.1]; exact e2 0, by rw [← ih.2.1]; exact e2 1, by rw [← ih.2.2.1]; exact e2 2, by rw [← ih.2.2.2.1]; exact e2 3, by rw [← ih.2.2.2.2]; exact e2 4⟩
/-- What the round reads of what came in. -/
theorem WithIn.view {w : World} {n vb be : Nat} {vL vl vr vg vt va x0 x1 x2 x3 x5 : Value} {V : Ver} {A : List Asked} {todo : List Nat} (h : WithIn w n vb be vL vl vr vg vt va x0 x1 x2 x3 x5 V A todo) {k : Nat} (hk : k < todo.length) :
    ∃ (gt ct ga ca a : Nat) (r : Asked), r = A.getD a noAsked ∧ a < A.length ∧ r.proc < n ∧ todo.take (k + 1) = todo.take k ++ [a] ∧ vt = .slice (some ⟨gt, 0, none⟩) todo.length ct ∧ va = .slice (some ⟨ga, 0, none⟩) A.length ca ∧ w.cell? ⟨gt, k, none⟩ = some (.int .i64 (a : Nat)) ∧ gt < w.heap.size ∧ ga < w.heap.size ∧
      (w.cell? ⟨ga, a * 5, none⟩ = some (.int .i64 r.proc) ∧ w.cell? ⟨ga, a * 5 + 1, none⟩ = some (.int .i64 r.many) ∧ w.cell? ⟨ga, a * 5 + 2, none⟩ = some (.int .i64 r.op.code) ∧
        w.cell? ⟨ga, a * 5 + 3, none⟩ = some (.int .i64 r.op.a) ∧ w.cell? ⟨ga, a * 5 + 4, none⟩ = some (.int .i64 r.op.b)) := by
  obtain ⟨gt, ct, rfl, _⟩ := own_open h.tt (by omega)
  have hm : todo.getD k 0 ∈ todo := by
    rw [List.getD_eq_getElem?_getD, List.getElem?_eq_getElem hk]; exact List.getElem_mem _
  have hl := h.lt _ hm
  obtain ⟨ga, ca, rfl, _⟩ := own_open h.asked (by omega)
  have hq := asked_at A (todo.getD k 0) hl.1
  have c := fun j (hj : j < 5) => World.ownsRow.cellAt h.asked (todo.getD k 0 * 5 + j) (by omega)
  refine ⟨gt, ct, ga, ca, todo.getD k 0, _, rfl, hl.1, hl.2, ?_, rfl, rfl, ?_, own_lt h.tt rfl, own_lt h.asked rfl, (c 0 (by omega)).trans hq.1, (c 1 (by omega)).trans hq.2.1, (c 2 (by omega)).trans hq.2.2.1, (c 3 (by omega)).trans hq.2.2.2.1, (c 4 (by omega)).trans hq.2.2.2.2⟩
  · rw [List.take_succ_eq_append_getElem hk]
    simp [List.getD_eq_getElem?_getD, List.getElem?_eq_getElem hk]
  · rw [World.ownsRow.cellAt h.tt k (by omega), ints_get _ _ (by simpa [natI] using hk)]
    simp [natI, List.getD_eq_getElem?_getD, List.getElem?_eq_getElem hk]

end Go.Proofs.Ytjfenjnnpikkdaa
/- Package psim: an object in memory that grows: copies, operations asked for. -/
namespace Go.Proofs.Ytjfenjnnpikkdaa
set_option maxRecDepth 100000
open Go.RowKit

section
variable {w w' : World} {base be n p : Nat} {R : PRef} {E : PS}
/-- A new copy, since w. -/
def NVer (w w1 : World) (n b : Nat) (v0 : Value) (L0 : List Int) (V : Ver) : Prop :=
  w.heap.size ≤ b ∧ ∃ vL vl vr vg, Blk w1 b #[.int .i64 V.st.kind, vL, .bool V.st.isSealed, .int .i64 V.st.to, vl, vr, vg] 84 ∧
    ((vL = v0 ∧ V.st.L = L0) ∨ (Own w1 3 1 vL V.st.L.length (ints V.st.L) ∧ Fresh w.heap.size vL)) ∧
    (Own w1 3 1 vl n (rangeI n fun q => (V.last q : Int)) ∧ Fresh w.heap.size vl) ∧ (Own w1 3 1 vr n (rangeI n V.resp) ∧ Fresh w.heap.size vr) ∧
    (Own w1 39 7 vg V.log.length (V.log.flatMap recV) ∧ Fresh w.heap.size vg)
theorem NVer.keeps {w w1 w2 : World} {n b : Nat} {v0 : Value} {L0 : List Int} {V : Ver} {F : Nat → Prop} (h : NVer w w1 n b v0 L0 V) (k : Keeps F w1 w2) (hF : ∀ k, F k → k < w.heap.size) : NVer w w2 n b v0 L0 V := by
  obtain ⟨h0, vL, vl, vr, vg, h1, h2, ⟨h3, h3'⟩, ⟨h4, h4'⟩, h5, h5'⟩ := h
  have hf : ∀ {v : Value}, Fresh w.heap.size v → ∀ q, v.ownBlock = some q → ¬ F q := fun hv q hq hf => by have := hv q hq; have := hF q hf; omega
  exact ⟨h0, vL, vl, vr, vg, h1.keeps k (fun hf => by have := hF _ hf; omega), h2.imp id (fun g => ⟨own_keeps g.1 k (hf g.2), g.2⟩), ⟨own_keeps h3 k (hf h3'), h3'⟩, ⟨own_keeps h4 k (hf h4'), h4'⟩, own_keeps h5 k (hf h5'), h5'⟩

end
end Go.Proofs.Ytjfenjnnpikkdaa
/- Package psim: swap. -/
namespace Go.Proofs.Ytjfenjnnpikkdaa
set_option maxRecDepth 100000
open Go.RowKit
open Go.Proofs.YtjfenjnnpikkdaaW.PrintLast

end Go.Proofs.Ytjfenjnnpikkdaa
/- An engine in memory, as its callers see it. -/
namespace Go.Proofs.Ytjfenjnnpikkdaa
set_option maxRecDepth 100000
open Go.RowKit

abbrev opV (o : Op3) : Value := .agg #[.int .i64 o.code, .int .i64 o.a, .int .i64 o.b]
abbrev stV (s : St) (vl : Value) : Value := .agg #[.int .i64 s.kind, vl, .bool s.isSealed, .int .i64 s.to]
/-- How an engine lies in memory: w, base, its blocks, its pointer, how much was done, what it is. -/
abbrev ERepT (σ : Type) := World → Nat → (Nat → Prop) → Nat → Nat → σ → Prop
section
variable {σ : Type} (Rep : ERepT σ)
/-- What a method leaves. -/
def EPost (w : World) (base : Nat) (fp : Nat → Prop) (b m : Nat) (E' : σ) (v : Value) (e : Ending) (w' : World) : Prop :=
  e = .returned v ∧ ∃ fp', Rep w' base fp' b m E' ∧ (∀ k, k < w.heap.size → (fp' k ↔ fp k)) ∧ Keeps fp w w'
/-- What Log leaves. -/
def ELog (L : Lin σ) (w : World) (base : Nat) (fp : Nat → Prop) (b m : Nat) (E : σ) (e : Ending) (w' : World) : Prop :=
  ∃ v', e = .returned v' ∧ Own w' 39 7 v' (L.log E).length ((L.log E).flatMap recV) ∧ Fresh w.heap.size v' ∧ ∃ fp', Rep w' base fp' b m E ∧ (∀ k, k < w.heap.size → (fp' k ↔ fp k)) ∧ (∀ k, v'.ownBlock = some k → ¬ fp' k) ∧ Keeps fp w w'
/-- What State leaves. -/
def EState (L : Lin σ) (w : World) (base : Nat) (fp : Nat → Prop) (b m : Nat) (E : σ) (e : Ending) (w' : World) : Prop :=
  ∃ v' s, s = behind L.start (L.log E) ∧ s.L.length ≤ 300 ∧ e = .returned (stV s v') ∧ Rd w' v' s.L ∧ ∃ fp', Rep w' base fp' b m E ∧ (∀ k, k < w.heap.size → (fp' k ↔ fp k)) ∧ Keeps fp w w'
/-- What New leaves. -/
def ENew (w : World) (E0 : σ) (e : Ending) (w' : World) : Prop :=
  ∃ b fp, e = .returned (.tuple #[.pointer (some ⟨b, 0, none⟩), .int .i64 0]) ∧ Rep w' w.heap.size fp b 0 E0 ∧ Below w.heap.size w w'
structure EngIf (L : Lin σ) (fI fS fB fL fT : FuncId) : Prop where
  keeps : ∀ {w w' base fp b m E F}, Rep w base fp b m E → Keeps F w w' → (∀ k, F k → ¬ fp k ∧ base ≤ k) → Rep w' base fp b m E
  mono : ∀ {w base fp b m m' E}, Rep w base fp b m E → m ≤ m' → Rep w base fp b m' E
  lt : ∀ {w base fp b m E}, Rep w base fp b m E → ∀ k, fp k → base ≤ k ∧ k < w.heap.size
  inv : ∀ {w base fp b m E}, Rep w base fp b m E → L.Inv E
  small : 0 < L.n ∧ L.n ≤ 64
  invoke : ∀ {w base fp b m E}, Rep w base fp b m E → m < 1000000 → ∀ (p : Int) (o : Op3), Calls Try.prog fI #[.pointer (some ⟨b, 0, none⟩), .int .i64 p, opV o] w (EPost Rep w base fp b (m + 1) (invI L E p o) (.int .i64 (codeI L E p o)))
  step : ∀ {w base fp b m E}, Rep w base fp b m E → m < 1000000 → ∀ (p : Int), Calls Try.prog fS #[.pointer (some ⟨b, 0, none⟩), .int .i64 p] w (EPost Rep w base fp b (m + 1) (stpI L E p).1 (.tuple #[.int .i64 (stpI L E p).2.1, .bool (stpI L E p).2.2]))
  busy : ∀ {w base fp b m E}, Rep w base fp b m E → m < 1000000 → ∀ (p : Int), Calls Try.prog fB #[.pointer (some ⟨b, 0, none⟩), .int .i64 p] w (EPost Rep w base fp b m E (.bool (decide (0 ≤ p ∧ p < L.n ∧ L.busy E p.toNat = true))))
  log : ∀ {w base fp b m E}, Rep w base fp b m E → m < 1000000 → Calls Try.prog fL #[.pointer (some ⟨b, 0, none⟩)] w (ELog Rep L w base fp b m E)
  state : ∀ {w base fp b m E}, Rep w base fp b m E → m < 1000000 → Calls Try.prog fT #[.pointer (some ⟨b, 0, none⟩)] w (EState Rep L w base fp b m E)
end
end Go.Proofs.Ytjfenjnnpikkdaa
/- The document's Same of lists of records. -/
namespace Go.Proofs.Ytjfenjnnpikkdaa
set_option maxRecDepth 100000
open Go.RowKit
open Go.Proofs.YtjfenjnnpikkdaaW.PrintLast

theorem own_shape2 {w : World} {e : TypeId} {size : Nat} {v : Value} {n : Nat} {xs : List Value} (h : Own w e size v n xs) : ∃ a c, v = .slice a n c ∧ n ≤ c ∧ c ≤ maxLen := by
  rcases h.2 with ⟨h1, h2⟩ | ⟨g, cap, cur, h1, _, _, h2, h3, _, _⟩
  · exact ⟨none, 0, by rw [h1, h2], by omega, by decide⟩
  · exact ⟨_, cap, h1, h2, h3⟩
/-- A slice that reads as records. -/
def RecRd (w : World) (v : Value) (l : List Rec) : Prop :=
  ∃ a c, v = .slice a l.length c ∧ (0 < l.length → ∃ b o, a = some ⟨b, o, none⟩ ∧ b < w.heap.size ∧ ∀ j u, (l.flatMap recV)[j]? = some u → w.cell? ⟨b, o + j, none⟩ = some u)
theorem RecRd.of {w : World} {v : Value} {l : List Rec} (h : Own w 39 7 v l.length (l.flatMap recV)) : RecRd w v l := by
  obtain ⟨a, c, rfl⟩ := own_shape h
  refine ⟨a, c, rfl, fun h0 => ?_⟩
  obtain ⟨g, c', e, _⟩ := own_open h h0
  injection e with e1 e2 e3
  subst e1 e3
  refine ⟨g, 0, rfl, own_lt h rfl, fun j u hj => ?_⟩
  have hl := (List.getElem?_eq_some_iff.1 hj).1
  rw [recs_len] at hl
  have := World.ownsRow.cellAt h j (by omega)
  rw [Nat.zero_add, this, hj]
theorem RecRd.ahead {w : World} {a : Option Addr} {c : Nat} {l m : List Rec} (h : RecRd w (.slice a (l ++ m).length c) (l ++ m)) : RecRd w (.slice a l.length c) l := by
  obtain ⟨a', c', e, h1⟩ := h
  injection e with e1 e2 e3
  subst e1 e3
  refine ⟨a, c, rfl, fun h0 => ?_⟩
  obtain ⟨b, o, rfl, hb, hc⟩ := h1 (by simp; omega)
  refine ⟨b, o, rfl, hb, fun j u hj => hc j u ?_⟩
  rw [List.flatMap_append, List.getElem?_append_left (List.getElem?_eq_some_iff.1 hj).1]
  exact hj
theorem RecRd.keeps {w w' : World} {v : Value} {l : List Rec} (h : RecRd w v l) {F : Nat → Prop} (hK : Keeps F w w') (hF : ∀ j, v.ownBlock = some j → ¬ F j) : RecRd w' v l := by
  obtain ⟨a, c, rfl, h1⟩ := h
  refine ⟨a, c, rfl, fun h0 => ?_⟩
  obtain ⟨b, o, rfl, hb, hc⟩ := h1 h0
  exact ⟨b, o, rfl, Nat.lt_of_lt_of_le hb hK.size, fun j u hj => hK.cellSome (p := ⟨b, o + j, none⟩) (hF b rfl) (hc j u hj)⟩
theorem rec_at : ∀ (l : List Rec) (i : Nat), i < l.length → ∀ j, j < 7 → (l.flatMap recV)[i * 7 + j]? = (recV (l.getD i ⟨0, 0, 0, ⟨0, 0, 0⟩, 0⟩))[j]? := by
  intro l
  induction l with
  | nil => intro i h; simp at h
  | cons a l ih =>
    intro i h j hj
    rcases i with _ | i
    · rw [List.flatMap_cons, List.getElem?_append_left (by simp [recV]; omega)]
      simp
    · rw [List.flatMap_cons, List.getElem?_append_right (by simp [recV]; omega)]
      rw [show (i + 1) * 7 + j - (recV a).length = i * 7 + j by simp [recV]; omega]
      simpa using ih i (by simpa using h) j hj
theorem RecRd.cells {w : World} {a : Option Addr} {c i : Nat} {l : List Rec} (h : RecRd w (.slice a l.length c) l) (hi : i < l.length) : ∃ b o r, r = l.getD i ⟨0, 0, 0, ⟨0, 0, 0⟩, 0⟩ ∧ a = some ⟨b, o, none⟩ ∧ b < w.heap.size ∧ w.cell? ⟨b, o + i * 7, none⟩ = some (.int .i64 r.index) ∧ w.cell? ⟨b, o + i * 7 + 1, none⟩ = some (.int .i64 r.proc) ∧ w.cell? ⟨b, o + i * 7 + 2, none⟩ = some (.int .i64 r.seq) ∧
    w.cell? ⟨b, o + i * 7 + 3, none⟩ = some (.int .i64 r.op.code) ∧ w.cell? ⟨b, o + i * 7 + 4, none⟩ = some (.int .i64 r.op.a) ∧ w.cell? ⟨b, o + i * 7 + 5, none⟩ = some (.int .i64 r.op.b) ∧ w.cell? ⟨b, o + i * 7 + 6, none⟩ = some (.int .i64 r.resp) := by
  obtain ⟨a', c', e, h1⟩ := h
  injection e with e1 e2 e3
  subst e1 e3
  obtain ⟨b, o, rfl, hb, hc⟩ := h1 (by omega)
  have hr := rec_at l i hi
  have g := fun j (hj : j < 7) u (hu : (recV (l.getD i ⟨0, 0, 0, ⟨0, 0, 0⟩, 0⟩))[j]? = some u) => hc (i * 7 + j) u ((hr j hj).trans hu)
  refine ⟨b, o, _, rfl, rfl, hb, ?_, ?_, ?_, ?_, ?_, ?_, ?_⟩
  · exact g 0 (by decide) _ rfl
  all_goals rw [Nat.add_assoc]
  · exact g 1 (by decide) _ rfl
  · exact g 2 (by decide) _ rfl
  · exact g 3 (by decide) _ rfl
  · exact g 4 (by decide) _ rfl
  · exact g 5 (by decide) _ rfl
  · exact g 6 (by decide) _ rfl
set_option maxRecDepth 100000 in
set_option maxHeartbeats 3200000 in
/-- Two that read the same are the same. -/
theorem same07 {w : World} {va vb : Value} {l : List Rec} (ha : RecRd w va l) (hb : RecRd w vb l) (hl : l.length ≤ 9223372036854775807) :
    Calls Try.prog 24 #[va, vb] w (Tells w true) := by
  obtain ⟨aa, ca, rfl, _⟩ := id ha
  obtain ⟨ab, cb, rfl, _⟩ := id hb
  have HA := Lib.hid ha
  have HB := Lib.hid hb
  clear ha hb
  go_enter Try.func24, Try.ntmps24
  go_wp2_with fail
  go_loopw [5] (fun iv wr => ∃ k : Nat, k ≤ l.length ∧ iv = .int .i64 k ∧ Below w.heap.size w wr) (fun iv _ => l.length - (intOf iv).toNat)
  case atStart => exact ⟨0, Nat.zero_le _, rfl, Below.refl _ _⟩
  case round =>
    obtain ⟨k, hk, rfl, hbl⟩ := hrel
    have HBL := Lib.hid hbl
    by_cases hlt : k < l.length
    · have d0 : decide ((k : Int) < l.length) = true := decide_eq_true (by omega)
      have i1 : (0 : Int) ≤ (k : Int) := by omega
      have i2 : (k : Int) < (l.length : Int) := by omega
      have i64k : IntKind.i64.wrap ((k : Int) + 1) = (k : Int) + 1 := IntWalk.i64_in _ (by omega)
      obtain ⟨ba, oa, r, hr, rfl, hba, a0, a1, a2, a3, a4, a5, a6⟩ := HA.out.cells hlt
      obtain ⟨bb, ob, r', hr', rfl, hbb, b0, b1, b2, b3, b4, b5, b6⟩ := HB.out.cells hlt
      rw [← hr] at hr'
      subst hr'
      have HR := Lib.hid hr
      have a0 := (hbl.cell (p := ⟨ba, oa + k * 7, none⟩) hba).trans a0
      have a1 := (hbl.cell (p := ⟨ba, oa + k * 7 + 1, none⟩) hba).trans a1
      have a2 := (hbl.cell (p := ⟨ba, oa + k * 7 + 2, none⟩) hba).trans a2
      have a3 := (hbl.cell (p := ⟨ba, oa + k * 7 + 3, none⟩) hba).trans a3
      have a4 := (hbl.cell (p := ⟨ba, oa + k * 7 + 4, none⟩) hba).trans a4
      have a5 := (hbl.cell (p := ⟨ba, oa + k * 7 + 5, none⟩) hba).trans a5
      have a6 := (hbl.cell (p := ⟨ba, oa + k * 7 + 6, none⟩) hba).trans a6
      have b0 := (hbl.cell (p := ⟨bb, ob + k * 7, none⟩) hbb).trans b0
      have b1 := (hbl.cell (p := ⟨bb, ob + k * 7 + 1, none⟩) hbb).trans b1
      have b2 := (hbl.cell (p := ⟨bb, ob + k * 7 + 2, none⟩) hbb).trans b2
      have b3 := (hbl.cell (p := ⟨bb, ob + k * 7 + 3, none⟩) hbb).trans b3
      have b4 := (hbl.cell (p := ⟨bb, ob + k * 7 + 4, none⟩) hbb).trans b4
      have b5 := (hbl.cell (p := ⟨bb, ob + k * 7 + 5, none⟩) hbb).trans b5
      have b6 := (hbl.cell (p := ⟨bb, ob + k * 7 + 6, none⟩) hbb).trans b6
      clear hbl hr
      go_wp2_with fail
      refine start_ (n := 9) (S := fun w' => w'.cell? ⟨ba, oa + k * 7, none⟩ = some (.int .i64 r'.index) ∧ w'.cell? ⟨ba, oa + k * 7 + 1, none⟩ = some (.int .i64 r'.proc) ∧ w'.cell? ⟨ba, oa + k * 7 + 2, none⟩ = some (.int .i64 r'.seq) ∧ w'.cell? ⟨ba, oa + k * 7 + 3, none⟩ = some (.int .i64 r'.op.code) ∧ w'.cell? ⟨ba, oa + k * 7 + 4, none⟩ = some (.int .i64 r'.op.a) ∧ w'.cell? ⟨ba, oa + k * 7 + 5, none⟩ = some (.int .i64 r'.op.b) ∧ w'.cell? ⟨ba, oa + k * 7 + 6, none⟩ = some (.int .i64 r'.resp) ∧ w'.cell? ⟨bb, ob + k * 7, none⟩ = some (.int .i64 r'.index) ∧ w'.cell? ⟨bb, ob + k * 7 + 1, none⟩ = some (.int .i64 r'.proc) ∧ w'.cell? ⟨bb, ob + k * 7 + 2, none⟩ = some (.int .i64 r'.seq) ∧ w'.cell? ⟨bb, ob + k * 7 + 3, none⟩ = some (.int .i64 r'.op.code) ∧ w'.cell? ⟨bb, ob + k * 7 + 4, none⟩ = some (.int .i64 r'.op.a) ∧ w'.cell? ⟨bb, ob + k * 7 + 5, none⟩ = some (.int .i64 r'.op.b) ∧ w'.cell? ⟨bb, ob + k * 7 + 6, none⟩ = some (.int .i64 r'.resp)) (ds := []) #[false, false, false, false, false, false, false, false, false] (by kernel_rfl) rfl rfl ⟨a0, a1, a2, a3, a4, a5, a6, b0, b1, b2, b3, b4, b5, b6⟩ (fun hHeld => ?_)
      refine pure_ (i := 0) (N := some 17) (v := ?_) (a' := ?_) #[true, false, false, false, false, false, false, false, false] rfl rfl (by kernel_rfl) (fun _ _ _ h => h) (Or.inl ⟨by rfl, ?_⟩) ?_ ?_
      rotate_left
      · intro w'
        go_simp
        with_reducible rfl
      rotate_left
      · simp only [Act.put, nA, nB, nC, i64_w, i32_w]
        rfl
      refine pure_ (i := 1) (N := some 18) (v := ?_) (a' := ?_) #[true, true, false, false, false, false, false, false, false] rfl rfl (by kernel_rfl) (fun _ _ _ h => h) (Or.inl ⟨by rfl, ?_⟩) ?_ ?_
      rotate_left
      · intro w'
        go_simp
        with_reducible rfl
      rotate_left
      · simp only [Act.put, nA, nB, nC, i64_w, i32_w]
        rfl
      refine pure_ (i := 2) (N := some 19) (v := ?_) (a' := ?_) #[true, true, true, false, false, false, false, false, false] rfl rfl (by kernel_rfl) (fun _ _ _ h => h) (Or.inl ⟨by rfl, ?_⟩) ?_ ?_
      rotate_left
      · intro w'
        go_simp
        with_reducible rfl
      rotate_left
      · simp only [Act.put, nA, nB, nC, i64_w, i32_w]
        rfl
      refine pure_ (i := 4) (N := some 21) (v := ?_) (a' := ?_) #[true, true, true, false, true, false, false, false, false] rfl rfl (by kernel_rfl) (fun _ _ _ h => h) (Or.inl ⟨by rfl, ?_⟩) ?_ ?_
      rotate_left
      · intro w'
        go_simp
        with_reducible rfl
      rotate_left
      · simp only [Act.put, nA, nB, nC, i64_w, i32_w]
        rfl
      refine pure_ (i := 5) (N := some 22) (v := ?_) (a' := ?_) #[true, true, true, false, true, true, false, false, false] rfl rfl (by kernel_rfl) (fun _ _ _ h => h) (Or.inl ⟨by rfl, ?_⟩) ?_ ?_
      rotate_left
      · intro w'
        go_simp
        with_reducible rfl
      rotate_left
      · simp only [Act.put, nA, nB, nC, i64_w, i32_w]
        rfl
      refine pure_ (i := 6) (N := some 23) (v := ?_) (a' := ?_) #[true, true, true, false, true, true, true, false, false] rfl rfl (by kernel_rfl) (fun _ _ _ h => h) (Or.inl ⟨by rfl, ?_⟩) ?_ ?_
      rotate_left
      · intro w'
        go_simp
        with_reducible rfl
      rotate_left
      · simp only [Act.put, nA, nB, nC, i64_w, i32_w]
        rfl
      refine take_ (i := 3) (N := some 20) (v := ?_) (a' := ?_) #[true, true, true, true, true, true, true, false, false] rfl rfl (by kernel_rfl) (fun _ _ _ h => h) (Or.inl ⟨by rfl, ?_⟩) hHeld ?_ ?_
      rotate_left
      · rintro w' ⟨s0, s1, s2, s3, s4, s5, s6, s7, s8, s9, s10, s11, s12, s13⟩
        go_simp
        with_reducible rfl
      rotate_left
      · simp only [Act.put, nA, nB, nC, i64_w, i32_w]
        rfl
      refine take_ (i := 7) (N := some 24) (v := ?_) (a' := ?_) #[true, true, true, true, true, true, true, true, false] rfl rfl (by kernel_rfl) (fun _ _ _ h => h) (Or.inl ⟨by rfl, ?_⟩) hHeld ?_ ?_
      rotate_left
      · rintro w' ⟨s0, s1, s2, s3, s4, s5, s6, s7, s8, s9, s10, s11, s12, s13⟩
        go_simp
        with_reducible rfl
      rotate_left
      · simp only [Act.put, nA, nB, nC, i64_w, i32_w]
        rfl
      refine pure_ (i := 8) (N := some 25) (v := ?_) (a' := ?_) #[true, true, true, true, true, true, true, true, true] rfl rfl (by kernel_rfl) (fun _ _ _ h => h) (Or.inl ⟨by rfl, ?_⟩) ?_ ?_
      rotate_left
      · intro w'
        go_simp
        with_reducible rfl
      rotate_left
      · simp only [Act.put, nA, nB, nC, i64_w, i32_w]
        rfl
      try clear hHeld
      refine done_ (by kernel_rfl) ?_
      clear a0 a1 a2 a3 a4 a5 a6 b0 b1 b2 b3 b4 b5 b6
      go_wp2_with fail
      go_roundw
      case rel => exact ⟨k + 1, by omega, by go_num, HBL.out.drew⟩
      case measure => simp [intOf]; omega
    · have d0 : decide ((k : Int) < l.length) = false := decide_eq_false (by omega)
      clear hbl
      go_wp2_with fail
      go_ret
      exact ⟨rfl, HBL.out⟩
end Go.Proofs.Ytjfenjnnpikkdaa
/- Package psim: Step. -/
namespace Go.Proofs.Ytjfenjnnpikkdaa
set_option maxRecDepth 100000
open Go.RowKit

theorem run_eqIn_func {P : Program} (w : World) (d : Nat) (t : TypeId) {a b : Array TypeId} {v : Bool} (h : P.underlying t = some (.func a b v)) (f : Fn) (x y : Array Value) : (Op.equalIn (d + 1) t (.func f x y) .nilFunc).run P w = .ok false w := by
  simp [Op.equalIn, run_underlying h]
theorem run_eqIn_nils {P : Program} (w : World) (d : Nat) (t : TypeId) {a b : Array TypeId} {v : Bool} (h : P.underlying t = some (.func a b v)) : (Op.equalIn (d + 1) t .nilFunc .nilFunc).run P w = .ok true w := by
  simp [Op.equalIn, run_underlying h]
theorem run_eql_func {P : Program} (w : World) (t : TypeId) {a b : Array TypeId} {v : Bool} (h : P.underlying t = some (.func a b v)) (f : Fn) (x y : Array Value) : (binOp .eql t (.func f x y) .nilFunc).run P w = .ok (.bool false) w := by
  simp only [binOp]
  simp [Op.equal, Op.maxDepth, run_eqIn_func w 9999 t h]
theorem run_eql_nils {P : Program} (w : World) (t : TypeId) {a b : Array TypeId} {v : Bool} (h : P.underlying t = some (.func a b v)) : (binOp .eql t .nilFunc .nilFunc).run P w = .ok (.bool true) w := by
  simp only [binOp]
  simp [Op.equal, Op.maxDepth, run_eqIn_nils w 9999 t h]
theorem run_neq_func {P : Program} (w : World) (t : TypeId) {a b : Array TypeId} {v : Bool} (h : P.underlying t = some (.func a b v)) (f : Fn) (x y : Array Value) : (binOp .neq t (.func f x y) .nilFunc).run P w = .ok (.bool true) w := by
  simp only [binOp]
  simp [Op.equal, Op.maxDepth, run_eqIn_func w 9999 t h]
theorem run_neq_nils {P : Program} (w : World) (t : TypeId) {a b : Array TypeId} {v : Bool} (h : P.underlying t = some (.func a b v)) : (binOp .neq t .nilFunc .nilFunc).run P w = .ok (.bool false) w := by
  simp only [binOp]
  simp [Op.equal, Op.maxDepth, run_eqIn_nils w 9999 t h]
theorem stepFn : ∃ a b v, Try.prog.underlying 79 = some (.func a b v) := ⟨_, _, _, Try.underlying79⟩

end Go.Proofs.Ytjfenjnnpikkdaa
/- Package psim: Invoke. -/
namespace Go.Proofs.Ytjfenjnnpikkdaa
set_option maxRecDepth 100000
open Go.RowKit
open Go.Proofs.YtjfenjnnpikkdaaW.PrintLast

theorem PPost.from {w w2 : World} {base be n : Nat} {R : PRef} {E : PS} {v : Value} {e : Ending} {w' : World} (hb : Below w.heap.size w w2) (h : PPost w2 base be R n E v e w') : PPost w base be R n E v e w' := by
  obtain ⟨h1, R', h2, h3, h4⟩ := h
  exact ⟨h1, R', h2, fun k hk => h3 k (Nat.lt_of_lt_of_le hk hb.size), (Keeps.ofBelow hb).trans' h4⟩
theorem PPost.same {w w2 : World} {base be n : Nat} {R : PRef} {E : PS} (hb : Below w.heap.size w w2) (h : PRep w base be R n E) (v : Value) : PPost w base be R n E v (.returned v) w2 :=
  ⟨rfl, R, h.keeps (F := fun _ => False) (Keeps.ofBelow hb) (by simp), fun _ _ => rfl, Keeps.ofBelow hb⟩

end Go.Proofs.Ytjfenjnnpikkdaa
/- Package psim: Invoke, of one that has nothing to do. -/
namespace Go.Proofs.Ytjfenjnnpikkdaa
set_option maxRecDepth 100000
open Go.RowKit
open Go.Proofs.YtjfenjnnpikkdaaW.PrintLast

end Go.Proofs.Ytjfenjnnpikkdaa
/- Package psim: Busy, now, Log, State. -/
namespace Go.Proofs.Ytjfenjnnpikkdaa
set_option maxRecDepth 100000
open Go.RowKit
open Go.Proofs.YtjfenjnnpikkdaaW.PrintLast

end Go.Proofs.Ytjfenjnnpikkdaa
/- Package psim: an object in memory, made of its parts. -/
namespace Go.Proofs.Ytjfenjnnpikkdaa
set_option maxRecDepth 100000
open Go.RowKit

abbrev newPr : Pr := ⟨0, 0, .idle, 0, 0, 0, []⟩
structure NewParts (w : World) (base be n : Nat) (bm : Nat) (vc vs : Value) (steps : List Int) (vp va vv vl vr vL : Value) (pa : Nat → Nat) (vb : Nat) (start : St) : Prop where
  small : 0 < n ∧ n ≤ 64
  eng : Blk w be #[ptrV bm, .int .i64 0, .int .i64 n, vp, va, vv] 76
  engG : base ≤ be
  mach : Mach w bm vc vs ⟨List.replicate (n + 1) 0, steps⟩
  machG : ∀ k, machF bm vc vs k → base ≤ k
  procs : Own w 78 1 vp n ((List.range n).map fun p => ptrV (pa p))
  procsG : Fresh base vp
  proc : ∀ p, p < n → Blk w (pa p) (procV be p newPr 0 .nilFunc (.slice none 0 0)) 81
  procG : ∀ p, p < n → base ≤ pa p
  inj : ∀ p q, p < n → q < n → pa p = pa q → p = q
  asked : Own w 91 5 va 1 (askedV noAsked)
  askedG : Fresh base va
  vers : Own w 82 1 vv 1 [ptrV vb]
  versG : Fresh base vv
  ver : Blk w vb #[.int .i64 start.kind, vL, .bool start.isSealed, .int .i64 start.to, vl, vr, .slice none 0 0] 84
  verG : base ≤ vb
  rdL : Rd w vL start.L
  ltL : 0 < start.L.length → ∀ k, vL.ownBlock = some k → k < base
  ol : Own w 3 1 vl n (List.replicate n (.int .i64 0))
  lG : Fresh base vl
  or : Own w 3 1 vr n (List.replicate n (.int .i64 0))
  rG : Fresh base vr
  dl : ∀ k, vl.ownBlock = some k → ¬ machF bm vc vs k
  dr : ∀ k, vr.ownBlock = some k → ¬ machF bm vc vs k

open Classical in
noncomputable def newOwn (be n bm : Nat) (vc vs vp va vv vl vr : Value) (pa : Nat → Nat) (vb : Nat) (k : Nat) : Option Tag :=
  if machF bm vc vs k then some .mach
  else if vl.ownBlock = some k ∨ vr.ownBlock = some k ∨ k = vb then some .imm
  else if h : ∃ q, q < n ∧ pa q = k then some (.proc h.choose)
  else if k = be ∨ vp.ownBlock = some k ∨ va.ownBlock = some k ∨ vv.ownBlock = some k then some .eng
  else none

theorem rangeI_const (n : Nat) (f : Nat → Int) (h : ∀ q, f q = 0) : rangeI n f = List.replicate n (.int .i64 0) := by
  apply List.ext_getElem?
  intro i
  by_cases hi : i < n
  · simp [ints, hi, h]
  · simp [ints, hi]
theorem blk_ne {w : World} {b b' : Nat} {cs cs' : Array Value} {T T' : TypeId} (h : Blk w b cs T) (h' : Blk w b' cs' T') (hne : T ≠ T') : b ≠ b' := fun e => by
  subst e
  unfold Blk at h h'
  rw [h] at h'
  injection h' with h'
  injection h' with _ ht
  exact hne ht
theorem NewParts.rep {w : World} {base be n bm : Nat} {vc vs vp va vv vl vr vL : Value} {steps : List Int} {pa : Nat → Nat} {vb : Nat} {start : St} (h : NewParts w base be n bm vc vs steps vp va vv vl vr vL pa vb start) :
    PRep w base be ⟨bm, vc, vs, steps, vp, va, vv, pa, fun _ => .slice none 0 0, fun _ => 0, fun _ => vb, newOwn be n bm vc vs vp va vv vl vr pa vb⟩ n (PS.new start) := by
  -- who is not of the machine
  have mB : ∀ {b : Nat} {cs : Array Value} {T : TypeId}, Blk w b cs T → T ≠ 108 → T ≠ 3 → ¬ machF bm vc vs b := by
    intro b cs T hb h1 h2 hf
    rcases hf with rfl | hf | hf
    · exact blk_ne hb h.mach.blk h1 rfl
    · exact own_blk_ne h.mach.cells hb (fun e => h2 e.symm) hf
    · exact own_blk_ne h.mach.steps hb (fun e => h2 e.symm) hf
  have mO : ∀ {e : TypeId} {s m : Nat} {v : Value} {xs : List Value} {k : Nat}, Own w e s v m xs → e ≠ 108 → e ≠ 3 → v.ownBlock = some k → ¬ machF bm vc vs k := by
    intro e s m v xs k ho h1 h2 hk hf
    rcases hf with rfl | hf | hf
    · exact own_blk_ne ho h.mach.blk h1 hk
    · exact own_type_ne ho h.mach.cells h2 hk hf
    · exact own_type_ne ho h.mach.steps h2 hk hf
  have iB : ∀ {b : Nat} {cs : Array Value} {T : TypeId}, Blk w b cs T → T ≠ 84 → T ≠ 3 → ¬ (vl.ownBlock = some b ∨ vr.ownBlock = some b ∨ b = vb) := by
    intro b cs T hb h1 h2 hf
    rcases hf with hf | hf | hf
    · exact own_blk_ne h.ol hb (fun e => h2 e.symm) hf
    · exact own_blk_ne h.or hb (fun e => h2 e.symm) hf
    · exact blk_ne hb h.ver h1 hf
  have iO : ∀ {e : TypeId} {s m : Nat} {v : Value} {xs : List Value} {k : Nat}, Own w e s v m xs → e ≠ 84 → e ≠ 3 → v.ownBlock = some k → ¬ (vl.ownBlock = some k ∨ vr.ownBlock = some k ∨ k = vb) := by
    intro e s m v xs k ho h1 h2 hk hf
    rcases hf with hf | hf | hf
    · exact own_type_ne ho h.ol h2 hk hf
    · exact own_type_ne ho h.or h2 hk hf
    · subst hf; exact own_blk_ne ho h.ver h1 hk
  have pB : ∀ {b : Nat} {cs : Array Value} {T : TypeId}, Blk w b cs T → T ≠ 81 → ¬ ∃ q, q < n ∧ pa q = b := by
    rintro b cs T hb h1 ⟨q, hq, rfl⟩
    exact blk_ne hb (h.proc q hq) h1 rfl
  have pO : ∀ {e : TypeId} {s m : Nat} {v : Value} {xs : List Value} {k : Nat}, Own w e s v m xs → e ≠ 81 → v.ownBlock = some k → ¬ ∃ q, q < n ∧ pa q = k := by
    rintro e s m v xs k ho h1 hk ⟨q, hq, rfl⟩
    exact own_blk_ne ho (h.proc q hq) h1 hk
  generalize hown : newOwn be n bm vc vs vp va vv vl vr pa vb = own
  have tM : ∀ k, machF bm vc vs k → own k = some .mach := fun k hk => by subst hown; unfold newOwn; rw [if_pos hk]
  have tI : ∀ k, ¬ machF bm vc vs k → (vl.ownBlock = some k ∨ vr.ownBlock = some k ∨ k = vb) → own k = some .imm := fun k h1 h2 => by subst hown; unfold newOwn; rw [if_neg h1, if_pos h2]
  have tP : ∀ p, p < n → own (pa p) = some (.proc p) := fun p hp => by
    subst hown; unfold newOwn
    have hx : ∃ q, q < n ∧ pa q = pa p := ⟨p, hp, rfl⟩
    rw [if_neg (mB (h.proc p hp) (by decide) (by decide)), if_neg (iB (h.proc p hp) (by decide) (by decide)), dif_pos hx]
    have := hx.choose_spec
    rw [h.inj _ p this.1 hp this.2]
  have tE : ∀ k, ¬ machF bm vc vs k → ¬ (vl.ownBlock = some k ∨ vr.ownBlock = some k ∨ k = vb) → (¬ ∃ q, q < n ∧ pa q = k) → (k = be ∨ vp.ownBlock = some k ∨ va.ownBlock = some k ∨ vv.ownBlock = some k) → own k = some .eng := fun k h1 h2 h3 h4 => by
    subst hown; unfold newOwn; rw [if_neg h1, if_neg h2, dif_neg h3, if_pos h4]
  have hfresh : ∀ k, own k ≠ none → base ≤ k ∧ k < w.heap.size := by
    intro k hk
    subst hown
    unfold newOwn at hk
    split at hk
    · rename_i h1; exact ⟨h.machG k h1, h.mach.lt h1⟩
    · split at hk
      · rename_i h1
        rcases h1 with h1 | h1 | h1
        · exact ⟨h.lG k h1, own_lt h.ol h1⟩
        · exact ⟨h.rG k h1, own_lt h.or h1⟩
        · subst h1; exact ⟨h.verG, h.ver.lt⟩
      · split at hk
        · rename_i h1
          obtain ⟨q, hq, rfl⟩ := h1
          exact ⟨h.procG q hq, (h.proc q hq).lt⟩
        · split at hk
          · rename_i h1
            rcases h1 with h1 | h1 | h1 | h1
            · subst h1; exact ⟨h.engG, h.eng.lt⟩
            · exact ⟨h.procsG k h1, own_lt h.procs h1⟩
            · exact ⟨h.askedG k h1, own_lt h.asked h1⟩
            · exact ⟨h.versG k h1, own_lt h.vers h1⟩
          · simp at hk
  have ecells : cellsP n (PS.new start) = List.replicate (n + 1) 0 := by
    apply List.ext_getElem?
    intro i
    unfold cellsP PS.new
    by_cases hi : i < n
    · rw [List.getElem?_append_left (by simpa using hi)]
      simp [hi, show i < n + 1 by omega]
    · rw [List.getElem?_append_right (by simpa using hi)]
      by_cases e : i = n
      · subst e; simp
      · simp [show ¬ i < n + 1 by omega]; omega
  refine ⟨h.small, hfresh, h.eng, tE be (mB h.eng (by decide) (by decide)) (iB h.eng (by decide) (by decide)) (pB h.eng (by decide)) (.inl rfl), by rw [ecells]; exact h.mach, tM, h.procs, ?_, ?_, h.asked, ?_, h.vers, ?_, ?_⟩
  · exact fun k hk => tE k (mO h.procs (by decide) (by decide) hk) (iO h.procs (by decide) (by decide) hk) (pO h.procs (by decide) hk) (.inr (.inl hk))
  · intro p hp
    exact ⟨tP p hp, h.proc p hp, World.ownsRow_nil .., by simp [Value.ownBlock]⟩
  · exact fun k hk => tE k (mO h.asked (by decide) (by decide) hk) (iO h.asked (by decide) (by decide) hk) (pO h.asked (by decide) hk) (.inr (.inr (.inl hk)))
  · exact fun k hk => tE k (mO h.vers (by decide) (by decide) hk) (iO h.vers (by decide) (by decide) hk) (pO h.vers (by decide) hk) (.inr (.inr (.inr hk)))
  · intro i hi
    have e0 : i = 0 := by simp [PS.new] at hi; omega
    subst e0
    refine ⟨tI vb (mB h.ver (by decide) (by decide)) (.inr (.inr rfl)), vL, vl, vr, .slice none 0 0, h.ver, ⟨h.rdL, fun h0 k hk => .inr (h.ltL h0 k hk)⟩, ⟨?_, fun k hk => tI k (h.dl k hk) (.inl hk)⟩, ⟨?_, fun k hk => tI k (h.dr k hk) (.inr (.inl hk))⟩, World.ownsRow_nil .., by simp [Value.ownBlock]⟩
    · rw [rangeI_const n (fun q => (((PS.new start).ver 0).last q : Int)) (fun q => rfl)]; exact h.ol
    · rw [rangeI_const n ((PS.new start).ver 0).resp (fun q => rfl)]; exact h.or
end Go.Proofs.Ytjfenjnnpikkdaa
