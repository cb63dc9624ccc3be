/-
  Calls of a disk as arguments, opened to their cells; few.
-/
import Derived.Test.YtpckjinlopmbcaaFsA
import Derived.Test.YtpckjinlopmbcaaOpen
import Derived.Test.YtpckjinlopmbcaaIn
import Derived.Lib.SmallJoins
import Derived.ProofKit
import Derived.OpenShut
namespace Go.Proofs.Ytpckjinlopmbcaa
set_option linter.unusedVariables false
set_option maxRecDepth 100000
set_option linter.unusedSimpArgs false
open Go.ChangeShapes Go.WideShapes Go.ChangeAt Go.RowKit Go.Deep
/-- A call. -/
structure OpF where
  kind : Int
  name : Int
  n : Int
  b : List Int
  keep : List Int
/-- What a walk is told of one. -/
structure OpFAt (w : World) (b o : Nat) (x : OpF) (vb vk : Value) : Prop where
  c0 : w.cell? ⟨b, o, none⟩ = some (.int .i64 x.kind)
  c1 : w.cell? ⟨b, o + 1, none⟩ = some (.int .i64 x.name)
  c2 : w.cell? ⟨b, o + 2, none⟩ = some (.int .i64 x.n)
  c3 : w.cell? ⟨b, o + 3, none⟩ = some vb
  c4 : w.cell? ⟨b, o + 4, none⟩ = some vk
  rb : Rb w vb x.b
  rk : Rd w vk x.keep
  w1 : (Lit.int .i64 x.name).wf = true
  w2 : (Lit.int .i64 x.n).wf = true
theorem OpFAt.below {w w' : World} {b o : Nat} {x : OpF} {vb vk : Value} (h : OpFAt w b o x vb vk) {B : Nat} (hb : Below B w w') (hB : w.heap.size ≤ B) : OpFAt w' b o x vb vk := by
  have hc : ∀ {p : Addr} {v : Value}, w.cell? p = some v → w'.cell? p = some v := fun hp => (hb.cell (Nat.lt_of_lt_of_le (World.block_lt_of_cell? w _ hp) hB)).trans hp
  exact ⟨hc h.c0, hc h.c1, hc h.c2, hc h.c3, hc h.c4, h.rb.below hb hB, h.rk.below hb hB, h.w1, h.w2⟩
def IsOpsF (w : World) (a : Option Addr) (len : Nat) (f : Nat → OpF) (vb vk : Nat → Value) : Prop :=
  0 < len → ∃ b o, a = some ⟨b, o, none⟩ ∧ b < w.heap.size ∧ ∀ i, i < len → OpFAt w b (o + i * 5) (f i) (vb i) (vk i)
theorem IsOpsF.below {w w' : World} {a : Option Addr} {len : Nat} {f : Nat → OpF} {vb vk : Nat → Value} (h : IsOpsF w a len f vb vk) {B : Nat} (hb : Below B w w') (hB : w.heap.size ≤ B) : IsOpsF w' a len f vb vk := fun hl => by
  obtain ⟨b, o, e, hlt, hc⟩ := h hl
  exact ⟨b, o, e, Nat.lt_of_lt_of_le hlt hb.size, fun i hi => (hc i hi).below hb hB⟩
theorem Try.cells_opF : Try.prog.cellsOf 40 = 5 := by kernel_rfl
theorem Try.cells_intF : Try.prog.cellsOf 3 = 1 := by kernel_rfl
theorem Try.cells_bytesF : Try.prog.cellsOf 22 = 1 := by kernel_rfl
theorem Try.cells_intsF : Try.prog.cellsOf 23 = 1 := by kernel_rfl
section
variable {H : Type} {enc : TypeId × Value → H} {P : Program} {w : World} {base : Nat} {spare : Nat → Bool} {held : Bool}
theorem trod_struct5 {t : TypeId} {f0 f1 f2 f3 f4 : Field} {fuel : Nat} {cs : List Value} {x : DataW H × List MemPlace} (ht : P.underlying t = some (.struct #[f0, f1, f2, f3, f4])) (h : DataW.trod enc P w base spare held fuel t cs = some x) :
    ∃ y0 y1 y2 y3 y4 n, cs.length = P.cellsOf t ∧ DataW.trod enc P w base spare held n f0.type ((cs.drop f0.offset).take (P.cellsOf f0.type)) = some y0 ∧
      DataW.trod enc P w base spare held n f1.type ((cs.drop f1.offset).take (P.cellsOf f1.type)) = some y1 ∧ DataW.trod enc P w base spare held n f2.type ((cs.drop f2.offset).take (P.cellsOf f2.type)) = some y2 ∧
      DataW.trod enc P w base spare held n f3.type ((cs.drop f3.offset).take (P.cellsOf f3.type)) = some y3 ∧ DataW.trod enc P w base spare held n f4.type ((cs.drop f4.offset).take (P.cellsOf f4.type)) = some y4 := by
  obtain ⟨xs, n, _, rfl, hl, hlen, hf⟩ := DataW.trod_struct ht h
  match xs, hlen with
  | [y0, y1, y2, y3, y4], _ => exact ⟨y0, y1, y2, y3, y4, n, hl, by simpa using hf 0 f0 rfl, by simpa using hf 1 f1 rfl, by simpa using hf 2 f2 rfl, by simpa using hf 3 f3 rfl, by simpa using hf 4 f4 rfl⟩
end
section
variable {H : Type} {enc : TypeId × Value → H} {W : World}
theorem open_bytes_row {n : Nat} {c : Value} {x : DataW H × List MemPlace} (h : DataW.trod enc Try.prog W 0 (fun _ => true) true n 22 [c] = some x) : ∃ bs : List Int, Rb W c bs := by
  rcases open_ints Try.underlying22 Try.underlying5 (by kernel_rfl) h with ⟨hcs, _⟩ | ⟨x, l, cp, zs, hcs, _, hl, hm, hz, _, hcell, hwz⟩
  · simp at hcs
    subst hcs
    exact ⟨[], rb_nil W⟩
  · simp at hcs
    subst hcs
    have hr : IsRow .u8 W (some x) l cp zs := .inr ⟨_, rfl, hl, hm, by simpa using hz, hcell, hwz⟩
    obtain ⟨h1, h2, h3⟩ := hr.le
    have e : (zs.take l).length = l := by simp; omega
    refine ⟨zs.take l, some x, cp, by rw [e], by omega, h3, fun h0 => ?_⟩
    obtain ⟨b, o, e2, hb, hc⟩ := hr.one (by omega)
    refine ⟨b, o, e2, hb, fun i hi => ?_⟩
    rw [hc i (by omega)]
    simp [List.getD_eq_getElem?_getD, List.getElem?_take, show i < l by omega]
theorem open_ints_row {n : Nat} {c : Value} {x : DataW H × List MemPlace} (h : DataW.trod enc Try.prog W 0 (fun _ => true) true n 23 [c] = some x) : ∃ bs : List Int, Rd W c bs := by
  rcases open_ints Try.underlying23 Try.underlying3 (by kernel_rfl) h with ⟨hcs, _⟩ | ⟨x, l, cp, zs, hcs, _, hl, hm, hz, _, hcell, hwz⟩
  · simp at hcs
    subst hcs
    exact ⟨[], rd_nil W⟩
  · simp at hcs
    subst hcs
    have hr : IsRow .i64 W (some x) l cp zs := .inr ⟨_, rfl, hl, hm, by simpa using hz, hcell, hwz⟩
    exact ⟨_, hr.rd⟩
theorem open_opF {n : Nat} {cs : List Value} {y : DataW H × List MemPlace} (h : DataW.trod enc Try.prog W 0 (fun _ => true) true n 40 cs = some y) :
    ∃ (o : OpF) (vb vk : Value), cs = [.int .i64 o.kind, .int .i64 o.name, .int .i64 o.n, vb, vk] ∧ Rb W vb o.b ∧ Rd W vk o.keep ∧ (Lit.int .i64 o.name).wf = true ∧ (Lit.int .i64 o.n).wf = true := by
  obtain ⟨y0, y1, y2, y3, y4, m', hl, u0, u1, u2, u3, u4⟩ := trod_struct5 Try.underlying40 h
  rw [Try.cells_opF] at hl
  obtain ⟨c0, c1, c2, c3, c4, rfl⟩ : ∃ c0 c1 c2 c3 c4, cs = [c0, c1, c2, c3, c4] := by
    match cs, hl with
    | [a, b, c, d, e], _ => exact ⟨a, b, c, d, e, rfl⟩
  simp only [Try.cells_intF, Try.cells_bytesF, Try.cells_intsF, List.drop, List.take] at u0 u1 u2 u3 u4
  obtain ⟨k, e0, _, _⟩ := DataW.trod_int Try.underlying3 u0
  obtain ⟨i, e1, _, w1⟩ := DataW.trod_int Try.underlying3 u1
  obtain ⟨j, e2, _, w2⟩ := DataW.trod_int Try.underlying3 u2
  obtain ⟨bs, hb⟩ := open_bytes_row u3
  obtain ⟨ks, hk⟩ := open_ints_row u4
  simp only [List.cons.injEq, and_true] at e0 e1 e2
  subst e0 e1 e2
  exact ⟨⟨k, i, j, bs, ks⟩, c3, c4, rfl, hb, hk, w1, w2⟩
theorem open_opsF {fuel : Nat} {x : DataW H × List MemPlace} (a : Option Addr) (len cap : Nat) (h : DataW.trod enc Try.prog W 0 (fun _ => true) true fuel 36 [.slice a len cap] = some x) :
    len ≤ 9223372036854775807 ∧ ∃ (f : Nat → OpF) (vb vk : Nat → Value), IsOpsF W a len f vb vk := by
  rcases open_slice Try.underlying36 h with ⟨hcs, _⟩ | ⟨a', len', cap', m', n, D, Pl, hcs, _, hl, hm, hmm, _, hi⟩
  · simp at hcs
    obtain ⟨rfl, rfl, rfl⟩ := hcs
    exact ⟨by omega, fun _ => ⟨0, 0, 0, [], []⟩, fun _ => .slice none 0 0, fun _ => .slice none 0 0, fun h => by omega⟩
  · simp at hcs
    obtain ⟨rfl, rfl, rfl⟩ := hcs
    simp at hmm
    subst hmm
    have key : ∀ i, i < len → ∃ (o : OpF) (vb vk : Value), (Rb W vb o.b ∧ Rd W vk o.keep ∧ (Lit.int .i64 o.name).wf = true ∧ (Lit.int .i64 o.n).wf = true) ∧ ∀ j, j < 5 → W.cell? (a'.add (i * 5 + j)) = [Value.int .i64 o.kind, .int .i64 o.name, .int .i64 o.n, vb, vk][j]? := by
      intro i hil
      obtain ⟨cs', hc, htr⟩ := hi i (by omega)
      rw [Try.cells_opF] at hc
      obtain ⟨_, hcl, hat⟩ := World.cells?_some hc
      obtain ⟨o, vb, vk, e, hb⟩ := open_opF htr
      refine ⟨o, vb, vk, hb, fun j hj => ?_⟩
      rw [← Go.Deep.add_add, hat j hj, e]
    simp only [maxLen] at hm
    refine ⟨by omega, fun i => if h : i < len then (key i h).choose else ⟨0, 0, 0, [], []⟩, fun i => if h : i < len then (key i h).choose_spec.choose else .slice none 0 0, fun i => if h : i < len then (key i h).choose_spec.choose_spec.choose else .slice none 0 0, fun hl0 => ?_⟩
    have hc0 := (key 0 hl0).choose_spec.choose_spec.choose_spec.2 0 (by omega)
    have hs := World.cell?_spot hc0
    obtain ⟨b, o, spot⟩ := a'
    have : spot = none := by simpa [Addr.add] using hs
    subst this
    refine ⟨b, o, rfl, ?_, fun i hil => ?_⟩
    · have := World.block_lt_of_cell? _ _ hc0
      simpa [addr_plain] using this
    · have h2 := (key i hil).choose_spec.choose_spec.choose_spec
      simp only [dif_pos hil]
      generalize (key i hil).choose_spec.choose_spec.choose = vk at *
      generalize (key i hil).choose_spec.choose = vb at *
      generalize (key i hil).choose = op at *
      have e : ∀ j, (⟨b, o, none⟩ : Addr).add (i * 5 + j) = ⟨b, o + i * 5 + j, none⟩ := fun j => by rw [addr_plain, Nat.add_assoc]
      have hc : ∀ j, j < 5 → W.cell? ⟨b, o + i * 5 + j, none⟩ = [Value.int .i64 op.kind, .int .i64 op.name, .int .i64 op.n, vb, vk][j]? := fun j hj => by rw [← e j]; exact h2.2 j hj
      exact ⟨hc 0 (by omega), hc 1 (by omega), hc 2 (by omega), hc 3 (by omega), hc 4 (by omega), h2.1.1, h2.1.2.1, h2.1.2.2.1, h2.1.2.2.2⟩
end
end Go.Proofs.Ytpckjinlopmbcaa
