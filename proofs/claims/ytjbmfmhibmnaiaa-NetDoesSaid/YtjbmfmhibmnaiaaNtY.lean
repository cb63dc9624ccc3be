/-
  NetDoes: two nets in one memory.
-/
import Derived.Test.YtjbmfmhibmnaiaaNtC
namespace Go.Proofs.Ytjbmfmhibmnaiaa
set_option linter.unusedVariables false
set_option maxRecDepth 100000
set_option linter.unusedSimpArgs false
open Go.RowKit
open Go.Proofs.YtjbmfmhibmnaiaaW.PrintLast

/-- The net and the document's, apart from each other. -/
structure NetE (w wr : World) (b g : Nat) (vl vr : Value) (L M : List (Msg × Value)) : Prop where
  n : NetL w wr 62 b vl L
  r : NetL w wr 45 g vr M
  dis : ∀ k, fpN b vl L k → ¬ fpN g vr M k
section
variable {w wr w' : World} {b g : Nat} {vl vr : Value} {L M L' M' : List (Msg × Value)}
theorem NetE.below (h : NetE w wr b g vl vr L M) (hb : Below wr.heap.size wr w') : NetE w w' b g vl vr L M := ⟨h.n.below hb, h.r.below hb, h.dis⟩
theorem NetE.postN (h : NetE w wr b g vl vr L M) (hp : NPost wr 62 b vl L L' w') (hl : ∀ x ∈ L', x.1.b.length ≤ 300) :
    ∃ vl', NetE w w' b g vl' vr L' M ∧ (∀ k, fpN b vl' L' k → fpN b vl L k ∨ wr.heap.size ≤ k) ∧ Keeps (fun k => k = b ∨ vl.ownBlock = some k) wr w' := by
  obtain ⟨vl', h1, h2, h3, h4, h5⟩ := hp.bel h.n.bel h.n.new
  refine ⟨vl', ⟨⟨h1, h2, h3, hl⟩, ⟨h.r.rep.keeps h5 (fun q hq hf => h.dis q (hf.imp id .inl) hq), h2, h.r.new, h.r.len⟩, fun k hk hr => ?_⟩, h4, h5⟩
  rcases h4 k hk with e | e
  · exact h.dis k e hr
  · have := h.r.rep.lt hr; omega
theorem NetE.postR (h : NetE w wr b g vl vr L M) (hp : NPost wr 45 g vr M M' w') (hl : ∀ x ∈ M', x.1.b.length ≤ 300) :
    ∃ vr', NetE w w' b g vl vr' L M' ∧ (∀ k, fpN g vr' M' k → fpN g vr M k ∨ wr.heap.size ≤ k) ∧ Keeps (fun k => k = g ∨ vr.ownBlock = some k) wr w' := by
  obtain ⟨vl', h1, h2, h3, h4, h5⟩ := hp.bel h.r.bel h.r.new
  refine ⟨vl', ⟨⟨h.n.rep.keeps h5 (fun q hq hf => h.dis q hq (hf.imp id .inl)), h2, h.n.new, h.n.len⟩, ⟨h1, h2, h3, hl⟩, fun k hk hr => ?_⟩, h4, h5⟩
  rcases h4 k hr with e | e
  · exact h.dis k hk e
  · have := h.n.rep.lt hk; omega
/-- A write into a block that is none of the nets'. -/
theorem NetE.write {q : Nat} (h : NetE w wr b g vl vr L M) (k : Keeps (fun k => k = q) wr w') (hq : w.heap.size ≤ q) (hn : ¬ fpN b vl L q) (hr : ¬ fpN g vr M q) : NetE w w' b g vl vr L M := by
  have hb := h.n.bel.trans (k.below (fun k hk => by subst hk; exact hq) h.n.bel.size)
  exact ⟨⟨h.n.rep.keeps k (fun k hk e => hn (e ▸ hk)), hb, h.n.new, h.n.len⟩, ⟨h.r.rep.keeps k (fun k hk e => hr (e ▸ hk)), hb, h.r.new, h.r.len⟩, h.dis⟩
end
theorem takeN_le {α : Type} (L : List α) (i : Int) : (takeN L i).length ≤ L.length := by
  by_cases h : 0 ≤ i ∧ i < L.length
  · have := takeN_len h; omega
  · rw [takeN_no h]; exact Nat.le_refl _
theorem msgs_app (L : List (Msg × Value)) (m : Msg) (v : Value) : msgs (L ++ [(m, v)]) = msgs L ++ [m] := by simp [msgs]
theorem msgs_take (L : List (Msg × Value)) (i : Int) : msgs (takeN L i) = takeN (msgs L) i := by
  unfold takeN
  have e : (msgs L).length = L.length := by simp [msgs]
  rw [e]
  split <;> simp [msgs, List.map_take, List.map_drop]
theorem msgs_len {L M : List (Msg × Value)} (h : msgs L = msgs M) : M.length = L.length := by
  have := congrArg List.length h
  simpa [msgs] using this.symm
/-- A row of bytes of the law's own, as the law goes over it. -/
structure Own7 (w wq : World) (b g : Nat) (vl vr : Value) (L M : List (Msg × Value)) (gx : Nat) (m : Msg) (v : Value) : Prop where
  e : NetE w wq b g vl vr L M
  box : Blk wq gx (msgB m v) 48
  own : ∃ ys : List Int, ys.length = m.b.length ∧ Own wq 5 1 v m.b.length (byt ys)
  ap : ∀ q, v.ownBlock = some q → w.heap.size ≤ q ∧ ¬ fpN b vl L q ∧ ¬ fpN g vr M q
theorem Own7.set {w wq : World} {b g : Nat} {vl vr : Value} {L M : List (Msg × Value)} {gx q c : Nat} {m : Msg} (h : Own7 w wq b g vl vr L M gx m (.slice (some ⟨q, 0, none⟩) m.b.length c)) (k : Nat) :
    Own7 w (wq.setCell ⟨q, k, none⟩ (.int .u8 7)) b g vl vr L M gx m (.slice (some ⟨q, 0, none⟩) m.b.length c) := by
  obtain ⟨h1, h2, h3⟩ := h.ap q rfl
  obtain ⟨ys, hy, ho⟩ := h.own
  have kk : Keeps (fun x => x = q) wq (wq.setCell ⟨q, k, none⟩ (.int .u8 7)) := (Keeps.refl (fun x => x = q) wq).set q k (.inl rfl) _
  refine ⟨h.e.write kk h1 h2 h3, h.box.keeps kk (fun e => own_blk_ne ho h.box (by decide) (by rw [← e]; rfl)), ⟨ys.set k 7, by simpa using hy, ?_⟩, h.ap⟩
  have := (World.ownsRow.stored ho k (.int .u8 7)).1
  have e : (byt ys).set (k * 1) (.int .u8 7) = byt (ys.set k 7) := by simp [byt, List.map_set]
  simpa [byt, List.map_set] using this
end Go.Proofs.Ytjbmfmhibmnaiaa
