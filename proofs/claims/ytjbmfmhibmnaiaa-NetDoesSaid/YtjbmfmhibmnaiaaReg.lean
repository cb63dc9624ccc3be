/-
  Steps of a region that draws its order: an append onto a row of the program's own.
-/
import Derived.Test.YtjbmfmhibmnaiaaWLast
import Derived.Test.YtjbmfmhibmnaiaaB
import Derived.Maps.AppendAt
import Derived.Laws.OwnMore
namespace Go.Proofs.Ytjbmfmhibmnaiaa
set_option linter.unusedVariables false
set_option maxRecDepth 100000
set_option linter.unusedSimpArgs false
open Go.RowKit
open Go.Proofs.YtjbmfmhibmnaiaaW.PrintLast
section
variable {P : Program} {ops : Array Oper} {Q : Exit → Act → World → Prop}
theorem append_own_ {oi : Oper} {N : Option Tmp} {a : Act} {w : World} {K : Act → World → Prop} (hg : oi.guard = none) (hN : oi.dst = N) (s x : Operand) (t : TypeId)
    (ho : oi.op = .call { callee := .builtin .append, args := #[s, x], argTypes := #[t, t] })
    (e : TypeId) (z : Value) (size bytes : Nat) (ht : P.underlying t = some (.slice e)) (hinfo : (P.info? e).map (fun i => (i.zero, i.size, i.bytes)) = some (some z, size, bytes)) (hzs : z.cells.size = size) (hsz : 0 < size)
    (v : Value) (n : Nat) (xs : List Value) (hs : a.eval s = v) (hown : Own w e size v n xs)
    (ad : Addr) (m c : Nat) (news : List Value) (hx : a.eval x = .slice (some ad) m c) (hl : news.length = m * size) (hnews : ∀ j u, news[j]? = some u → w.cell? (ad.add j) = some u) (h1 : ∀ u ∈ news, u.oneCell' = true)
    (h63 : n + m ≤ 1073741824) (hb : bytes ≤ 4096)
    (h : ∀ v' w', Own w' e size v' (n + m) (xs ++ news) → w.grownBy w' v.ownBlock → (v'.ownBlock = v.ownBlock ∨ v'.ownBlock = some w.heap.size) → K (a.put N v') w') :
    if Region.wanted oi (yielded ops a.tmps) = true then Oper.wp P oi a w K Q else K (a.put N undef) w := by
  obtain ⟨i, hi, hz, hsize, hby⟩ := info_parts hinfo
  have hbytes : (n + m) * bytes ≤ 140737488355328 := by
    have := Nat.mul_le_mul h63 hb
    omega
  obtain ⟨v', w', hr, h2, h3, h4, h5⟩ := run_append_own_at (P := P) w 0 t oi.type e i z size bytes ht hi hz hsize hby hzs hsz v n xs hown ad m c news hl hnews h1 (by simp only [maxLen]; omega) hbytes (Nat.zero_le _)
  refine value_ (w1 := w') (v := v') ?_ hN ?_ (h v' w' h2 h3 h5)
  · unfold Region.wanted; rw [hg]
  · unfold execOp
    simp only [ho, resolve, invoke, builtin, Sem.run_bind, Sem.run_pure, Result.andThen_ok, List.map_toArray, List.map_cons, List.map_nil, hs, hx, hr]
/-- A slice that is made. -/
theorem make_own_ {oi : Oper} {N : Option Tmp} {a : Act} {w : World} {K : Act → World → Prop} (hg : oi.guard = none) (hN : oi.dst = N) (l c : Operand) (t : TypeId) (ho : oi.op = .makeSlice t l c)
    (e : TypeId) (z : Value) (size bytes : Nat) (ht : P.underlying t = some (.slice e)) (hinfo : (P.info? e).map (fun i => (i.zero, i.size, i.bytes)) = some (some z, size, bytes))
    (kl kc : IntKind) (n : Nat) (hl : a.eval l = .int kl (n : Int)) (hc : a.eval c = .int kc (n : Int)) (h63 : n ≤ 1073741824) (hb : bytes ≤ 4096)
    (h : ∀ w', Own w' e size (.slice (some ⟨w.heap.size, 0, none⟩) n n) n (madeCells z.cells (n * size)).toList → w.grownBy w' none → K (a.put N (.slice (some ⟨w.heap.size, 0, none⟩) n n)) w') :
    if Region.wanted oi (yielded ops a.tmps) = true then Oper.wp P oi a w K Q else K (a.put N undef) w := by
  obtain ⟨i, hi, hz, hsize, hby⟩ := info_parts hinfo
  have hbytes : i.bytes * n ≤ 281474976710656 := by
    have := Nat.mul_le_mul hb h63
    rw [hby]
    omega
  obtain ⟨w', hrun, r1, r2⟩ := run_make_full (P := P) w 0 t e i z size ht hi hz hsize kl kc n hbytes (by simp only [maxLen]; omega) (Nat.zero_le _)
  refine value_ (w1 := w') (v := .slice (some ⟨w.heap.size, 0, none⟩) n n) ?_ hN ?_ (h w' r1 r2)
  · unfold Region.wanted; rw [hg]
  · unfold execOp
    simp only [ho, hl, hc, Sem.run_bind, Result.andThen_ok, hrun]
    simp [hrun, Result.andThen]
end
theorem grown_drew {w w' : World} {r : Option Nat} (h : w.drew.grownBy w' r) : w.grownBy w' r := ⟨h.os, h.tape, h.output, h.size, h.block⟩
theorem cells_new (w : World) (cs : List Value) (t : TypeId) : ∀ j u, cs[j]? = some u → (w.alloc (.cells cs.toArray t)).cell? ((⟨w.heap.size, 0, none⟩ : Addr).add j) = some u := by
  intro j u hj
  have hb := Blk.new w cs.toArray t
  rw [show (⟨w.heap.size, 0, none⟩ : Addr).add j = ⟨w.heap.size, j, none⟩ by unfold Addr.add; split <;> simp_all, hb.cell]
  simpa using hj
end Go.Proofs.Ytjbmfmhibmnaiaa
