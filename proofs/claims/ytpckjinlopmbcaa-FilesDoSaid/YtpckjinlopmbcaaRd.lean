/-
  Slices of ints that are read; rows known to the cell; copy, clear, append within the room.
-/
import Derived.Test.YtpckjinlopmbcaaB
import Derived.Lib.SliceRun
import Derived.Lib.Overlaps
namespace Go.Proofs.Ytpckjinlopmbcaa
set_option linter.unusedVariables false
set_option maxRecDepth 100000
set_option linter.unusedSimpArgs false
open Go.RowKit

/-- A slice of ints that reads as xs. -/
def Rd (w : World) (v : Value) (xs : List Int) : Prop :=
  ∃ a c, v = .slice a xs.length c ∧ xs.length ≤ c ∧ c ≤ 9223372036854775807 ∧ (0 < xs.length → ∃ b o, a = some ⟨b, o, none⟩ ∧ b < w.heap.size ∧ ∀ i, i < xs.length → w.cell? ⟨b, o + i, none⟩ = some (.int .i64 (xs.getD i 0)))
theorem Rd.below {w w' : World} {v : Value} {xs : List Int} (h : Rd w v xs) {B : Nat} (hb : Below B w w') (hB : w.heap.size ≤ B) : Rd w' v xs := by
  obtain ⟨a, c, e, h1, h2, h3⟩ := h
  refine ⟨a, c, e, h1, h2, fun hl => ?_⟩
  obtain ⟨b, o, e2, hlt, hc⟩ := h3 hl
  exact ⟨b, o, e2, Nat.lt_of_lt_of_le hlt hb.size, fun i hi => (hb.cell (p := ⟨b, o + i, none⟩) (Nat.lt_of_lt_of_le hlt hB)).trans (hc i hi)⟩
theorem Rd.keeps {F : Nat → Prop} {w w' : World} {v : Value} {xs : List Int} (h : Rd w v xs) (k : Keeps F w w') (hd : ∀ b, v.ownBlock = some b → ¬ F b) : Rd w' v xs := by
  obtain ⟨a, c, rfl, h1, h2, h3⟩ := h
  refine ⟨a, c, rfl, h1, h2, fun hl => ?_⟩
  obtain ⟨b, o, e2, hlt, hc⟩ := h3 hl
  refine ⟨b, o, e2, Nat.lt_of_lt_of_le hlt k.size, fun i hi => k.cellSome (hd b ?_) (hc i hi)⟩
  rw [e2]
  rfl
theorem Rd.alloc {w : World} {v : Value} {xs : List Int} (h : Rd w v xs) (o : Obj) : Rd (w.alloc o) v xs := h.below ((Below.refl _ w).alloc (Nat.le_refl _) o) (Nat.le_refl _)
theorem Rd.drew {w : World} {v : Value} {xs : List Int} (h : Rd w v xs) : Rd w.drew v xs := h
theorem Rd.drewN {w : World} {v : Value} {xs : List Int} (h : Rd w v xs) (n : Nat) : Rd (w.drewN n) v xs := h
theorem rd_nil (w : World) : Rd w (.slice none 0 0) [] := ⟨none, 0, rfl, by simp, by simp, by simp⟩
theorem own_rd {w : World} {e : TypeId} {v : Value} {n : Nat} {xs : List Int} (h : Own w e 1 v n (ints xs)) : Rd w v xs := by
  have hl : xs.length = n := by have := h.1; simpa [ints] using this
  subst hl
  rcases h.2 with ⟨rfl, e0⟩ | ⟨g, cap, cur, rfl, _, hh, h1, h2, _⟩
  · have : xs = [] := List.eq_nil_of_length_eq_zero e0
    subst this
    exact rd_nil w
  · simp only [maxLen] at h2
    refine ⟨_, _, rfl, h1, by omega, fun hl => ⟨g, 0, rfl, (Array.getElem?_eq_some_iff.1 hh).1, fun i hi => ?_⟩⟩
    rw [Nat.zero_add, World.ownsRow.cellAt h i (by omega), ints_get _ _ hi]
/-- What a walk takes of it. -/
theorem Rd.view {w : World} {v : Value} {xs : List Int} (h : Rd w v xs) : ∃ (n : Nat) (a : Option Addr) (c : Nat) (f : Nat → Int), v = .slice a n c ∧ n = xs.length ∧ n ≤ c ∧ c ≤ 9223372036854775807 ∧ (∀ i, f i = xs.getD i 0) ∧
    (0 < n → ∃ b o, a = some ⟨b, o, none⟩ ∧ b < w.heap.size ∧ ∀ i, i < n → w.cell? ⟨b, o + i, none⟩ = some (.int .i64 (f i))) := by
  obtain ⟨a, c, e, h1, h2, h3⟩ := h
  exact ⟨_, a, c, fun i => xs.getD i 0, e, rfl, h1, h2, fun _ => rfl, h3⟩
theorem Rd.news {w : World} {v : Value} {xs : List Int} (h : Rd w v xs) : ∃ a c, v = .slice a xs.length c ∧ ∀ ad, a = some ad → ∀ j u, (ints xs)[j]? = some u → w.cell? (ad.add j) = some u := by
  obtain ⟨a, c, e, h1, h2, h3⟩ := h
  refine ⟨a, c, e, fun ad had j u hu => ?_⟩
  have hj : j < xs.length := by
    have := (List.getElem?_eq_some_iff.1 hu).1
    simpa [ints] using this
  obtain ⟨b, o, e2, _, hc⟩ := h3 (by omega)
  rw [had] at e2
  injection e2 with e2
  subst e2
  rw [ints_get _ _ hj] at hu
  injection hu with hu
  subst hu
  rw [show (⟨b, o, none⟩ : Addr).add j = ⟨b, o + j, none⟩ by unfold Addr.add; split <;> simp_all]
  exact hc j hj

theorem Blk.news {w : World} {b : Nat} {cs : Array Value} {T : TypeId} (h : Blk w b cs T) : ∀ j u, cs.toList[j]? = some u → w.cell? ((⟨b, 0, none⟩ : Addr).add j) = some u := fun j u hu => by
  rw [show (⟨b, 0, none⟩ : Addr).add j = ⟨b, j, none⟩ by unfold Addr.add; split <;> simp_all, h.cell j]
  simpa using hu

/-- A row in block g, known to the cell. -/
def RowAt (w : World) (e : TypeId) (g : Nat) (cur : List Value) : Prop := w.heap[g]? = some (.cells cur.toArray e (0, 0))
theorem RowAt.lt {w : World} {e : TypeId} {g : Nat} {cur : List Value} (h : RowAt w e g cur) : g < w.heap.size := (Array.getElem?_eq_some_iff.1 h).1
theorem RowAt.cell {w : World} {e : TypeId} {g : Nat} {cur : List Value} (h : RowAt w e g cur) (i : Nat) : w.cell? ⟨g, i, none⟩ = cur[i]? := by unfold RowAt at h; simp [World.cell?, h]
theorem RowAt.frozen {w : World} {e : TypeId} {g : Nat} {cur : List Value} (h : RowAt w e g cur) (i : Nat) : w.frozen? ⟨g, i, none⟩ = false := by unfold RowAt at h; simp [World.frozen?, h]
theorem RowAt.set {w : World} {e : TypeId} {g : Nat} {cur : List Value} (h : RowAt w e g cur) (cs : List Value) : RowAt (w.setRow g cs.toArray) e g cs := setRow_heap w g _ _ e _ h
theorem RowAt.drew {w : World} {e : TypeId} {g : Nat} {cur : List Value} (h : RowAt w e g cur) : RowAt w.drew e g cur := h
theorem RowAt.own {w : World} {e : TypeId} {g n cap : Nat} {cur : List Value} (h : RowAt w e g cur) (h1 : n ≤ cap) (h2 : cap ≤ maxLen) (h3 : cur.length = cap) : Own w e 1 (.slice (some ⟨g, 0, none⟩) n cap) n (cur.take n) :=
  ⟨by simp; omega, .inr ⟨g, cap, cur.toArray, rfl, Nat.zero_le _, h, h1, h2, by simpa using h3, by simp⟩⟩
theorem own_row {w : World} {e : TypeId} {g n cap m : Nat} {xs : List Value} (h : Own w e 1 (.slice (some ⟨g, 0, none⟩) n cap) m xs) : m = n ∧ n ≤ cap ∧ cap ≤ maxLen ∧ xs.length = n ∧ ∃ rest, RowAt w e g (xs ++ rest) ∧ (xs ++ rest).length = cap := by
  obtain ⟨h0, h2 | ⟨g', cap', cur, e2, _, hh, h1, h2, h3, h4⟩⟩ := h
  · simp at h2
  · simp at e2
    obtain ⟨rfl, rfl, rfl⟩ := e2
    have e5 : xs ++ cur.toList.drop n = cur.toList := by
      have h4' : xs = cur.toList.take n := by simpa using h4.symm
      rw [h4', List.take_append_drop]
    refine ⟨rfl, h1, h2, by simpa using h0, cur.toList.drop n, ?_, ?_⟩
    · unfold RowAt
      rw [e5]
      simpa using hh
    · rw [e5]
      simpa using h3
theorem keeps_setRow (w : World) (g : Nat) (cs : Array Value) : Keeps (fun k => k = g) w (w.setRow g cs) := ⟨rfl, rfl, rfl, by simp, fun k _ hk => setRow_other w g k _ hk⟩

section
variable {P : Program} (w : World)
/-- copy into a row, known to the cell. -/
theorem run_copy_row (t ty e : TypeId) (i : TypeInfo) (ht : P.underlying t = some (.slice e)) (hi : P.info? e = some i) (hsize : i.size = 1) (g o dl dc : Nat) (cur : List Value) (hg : RowAt w e g cur)
    (src : Value) (ms m : Nat) (news : List Value) (hl : news.length = m) (hsrc : ∃ a c, src = .slice a ms c ∧ (0 < m → ∃ ad, a = some ad ∧ ∀ j u, news[j]? = some u → w.cell? (ad.add j) = some u)) (h1 : ∀ u ∈ news, u.oneCell' = true) (hm : Nat.min ms dl = m) (hfit : o + m ≤ cur.length) :
    (Builtin.copy_ #[t, t] ty #[.slice (some ⟨g, o, none⟩) dl dc, src]).run P w = .ok (.int .i64 m) (w.setRow g (cur.take o ++ news ++ cur.drop (o + m)).toArray) := by
  obtain ⟨a, c, rfl, hsrc⟩ := hsrc
  subst hl
  have hst := run_storeCells_at P g o e news 0 cur.toArray w hg (by simpa using hfit) h1
  have hf : (Builtin.firstCells 1 news.length (.slice a ms c)).run P w = .ok news.toArray w := by
    by_cases h0 : 0 < news.length
    · obtain ⟨ad, rfl, hc⟩ := hsrc h0
      exact run_firstCells_some w 1 news.length ad ms c news (by simp) hc
    · have : news = [] := List.eq_nil_of_length_eq_zero (by omega)
      subst this
      cases a with
      | none => simp [Builtin.firstCells]
      | some ad => exact run_firstCells_some w 1 0 ad ms c [] (by simp) (by simp)
  simp only [Nat.add_zero] at hst
  simp [Builtin.copy_, run_underlying ht, sizeOf, typeInfo, hi, hsize, Builtin.lenOf, hm, hf, hst, goInt]
/-- clear of a part of a row, known to the cell. -/
theorem run_clear_row (t ty e : TypeId) (z : Value) (ht : P.underlying t = some (.slice e)) (hv : ∀ w, (zeroValue e).run P w = .ok z w) (hz : z.cells = #[z]) (h1 : z.oneCell' = true) (g o n c : Nat) (hn : 0 < n) (cur : List Value) (hg : RowAt w e g cur) (hfit : o + n ≤ cur.length) :
    (Builtin.clear_ #[t] ty #[.slice (some ⟨g, o, none⟩) n c]).run P w = .ok (.tuple #[]) (w.setRow g (cur.take o ++ List.replicate n z ++ cur.drop (o + n)).toArray) := by
  have hzc : (Builtin.zeroCells z.cells n).toList = List.replicate n z := by
    rw [hz]
    simp [Builtin.zeroCells]
    apply List.ext_getElem
    · simp
    · intro i h1 h2
      simp [Nat.mod_one]
  have hst := run_storeCells_at P g o e (List.replicate n z) 0 cur.toArray w hg (by simpa using hfit) (by intro v hv'; rw [List.eq_of_mem_replicate hv']; exact h1)
  simp only [Nat.add_zero] at hst
  obtain ⟨m, rfl⟩ : ∃ m, n = m + 1 := ⟨n - 1, by omega⟩
  simp [Builtin.clear_, run_underlying ht, hv, hzc, hst]
/-- append within the room of a row, known to the cell. -/
theorem run_append_row (t ty e : TypeId) (i : TypeInfo) (ht : P.underlying t = some (.slice e)) (hi : P.info? e = some i) (hsize : i.size = 1) (g sLen sCap : Nat) (cur : List Value) (hg : RowAt w e g cur)
    (src : Value) (m : Nat) (news : List Value) (hl : news.length = m) (hsrc : ∃ a c, src = .slice a m c ∧ (0 < m → ∃ ad, a = some ad ∧ ∀ j u, news[j]? = some u → w.cell? (ad.add j) = some u)) (h1 : ∀ u ∈ news, u.oneCell' = true) (hroom : sLen + m ≤ sCap) (hfit : sLen + m ≤ cur.length) :
    (Builtin.append_ #[t, t] ty #[.slice (some ⟨g, 0, none⟩) sLen sCap, src]).run P w = .ok (.slice (some ⟨g, 0, none⟩) (sLen + m) sCap) (w.setRow g (cur.take sLen ++ news ++ cur.drop (sLen + m)).toArray) := by
  obtain ⟨a, c, rfl, hsrc⟩ := hsrc
  subst hl
  have hst := run_storeCells_at P g sLen e news 0 cur.toArray w hg (by simpa using hfit) h1
  have hf : (Builtin.firstCells 1 news.length (.slice a news.length c)).run P w = .ok news.toArray w := by
    by_cases h0 : 0 < news.length
    · obtain ⟨ad, rfl, hc⟩ := hsrc h0
      exact run_firstCells_some w 1 news.length ad news.length c news (by simp) hc
    · have : news = [] := List.eq_nil_of_length_eq_zero (by omega)
      subst this
      cases a with
      | none => simp [Builtin.firstCells]
      | some ad => exact run_firstCells_some w 1 0 ad 0 c [] (by simp) (by simp)
  have hadd : (⟨g, 0, none⟩ : Addr).add sLen = ⟨g, sLen, none⟩ := by unfold Addr.add; split <;> simp_all
  simp only [Nat.add_zero] at hst
  simp [Builtin.append_, run_underlying ht, sizeOf, typeInfo, hi, hsize, Builtin.lenOf, hroom, hf, hadd, hst]

/-- A builtin whose run is known, at its operation. -/
theorem wpList_builtin {ops : Array Oper} {rest : List Oper} {o : Oper} {a : Act} {Q : Exit → Act → World → Prop} (hgd : o.guard = none) (b : Builtin) (args : Array Operand) (ts : Array TypeId)
    (ho : o.op = .call { callee := .builtin b, args := args, argTypes := ts }) {v : Value} {w' : World} (hrun : (execOp a.eval o).run P w = .ok (.value v) w')
    (h : wpList P ops Q rest (a.put o.dst v) w') : wpList P ops Q (o :: rest) a w := by
  refine wpList_plain hgd fun K hK => ?_
  unfold Oper.wp
  rw [hrun]
  exact hK _ _ h
theorem wpList_append2 {ops : Array Oper} {rest : List Oper} {o : Oper} {a : Act} {Q : Exit → Act → World → Prop} (hgd : o.guard = none) (s x : Operand) (t tn : TypeId)
    (ho : o.op = .call { callee := .builtin .append, args := #[s, x], argTypes := #[t, tn] }) (v u : Value) (hs : a.eval s = v) (hx : a.eval x = u) {r : Value} {w' : World} (hrun : ∀ ty, (Builtin.append_ #[t, tn] ty #[v, u]).run P w = .ok r w')
    (h : wpList P ops Q rest (a.put o.dst r) w') : wpList P ops Q (o :: rest) a w := by
  refine wpList_plain hgd fun K hK => ?_
  unfold Oper.wp execOp
  simp only [ho, resolve, invoke, builtin, Sem.run_bind, Sem.run_pure, Result.andThen_ok, List.map_toArray, List.map_cons, List.map_nil, hs, hx, hrun]
  exact hK _ _ h
theorem wpList_copy2 {ops : Array Oper} {rest : List Oper} {o : Oper} {a : Act} {Q : Exit → Act → World → Prop} (hgd : o.guard = none) (s x : Operand) (t tn : TypeId)
    (ho : o.op = .call { callee := .builtin .copy, args := #[s, x], argTypes := #[t, tn] }) (v u : Value) (hs : a.eval s = v) (hx : a.eval x = u) {r : Value} {w' : World} (hrun : ∀ ty, (Builtin.copy_ #[t, tn] ty #[v, u]).run P w = .ok r w')
    (h : wpList P ops Q rest (a.put o.dst r) w') : wpList P ops Q (o :: rest) a w := by
  refine wpList_plain hgd fun K hK => ?_
  unfold Oper.wp execOp
  simp only [ho, resolve, invoke, builtin, Sem.run_bind, Sem.run_pure, Result.andThen_ok, List.map_toArray, List.map_cons, List.map_nil, hs, hx, hrun]
  exact hK _ _ h
theorem wpList_clear1 {ops : Array Oper} {rest : List Oper} {o : Oper} {a : Act} {Q : Exit → Act → World → Prop} (hgd : o.guard = none) (s : Operand) (t : TypeId)
    (ho : o.op = .call { callee := .builtin .clear, args := #[s], argTypes := #[t] }) (v : Value) (hs : a.eval s = v) {r : Value} {w' : World} (hrun : ∀ ty, (Builtin.clear_ #[t] ty #[v]).run P w = .ok r w')
    (h : wpList P ops Q rest (a.put o.dst r) w') : wpList P ops Q (o :: rest) a w := by
  refine wpList_plain hgd fun K hK => ?_
  unfold Oper.wp execOp
  simp only [ho, resolve, invoke, builtin, Sem.run_bind, Sem.run_pure, Result.andThen_ok, List.map_toArray, List.map_cons, List.map_nil, hs, hrun]
  exact hK _ _ h
end
end Go.Proofs.Ytpckjinlopmbcaa
