/-
  The base of the walks: what a call leaves as it was outside a set of blocks ('Keeps'), blocks known whole, rows of the program's own, append of zeros.
-/
import Derived.WalkKit
import Derived.Below
import Derived.Maps.AppendAt
import Derived.Laws.OwnMore
import Derived.Lib.AppendZerosOnto
import Derived.Lib.Hide
import Derived.Deep.QuietTactic
import Derived.BigQuiet
import Derived.Lib.SliceRun
import Derived.Lib.Overlaps
import Derived.Test.YtjfenjnnpikkdaaProg
import Derived.StillTailTactics
import Derived.WalkSpells
set_option linter.unusedVariables false
set_option linter.unusedSimpArgs false
namespace Go.Proofs.Ytjfenjnnpikkdaa
/-- A list's cell that is set, as an array's. -/
theorem nA {α : Type} (l : List α) (i : Nat) (a : α) : l.toArray.setIfInBounds i a = (l.set i a).toArray := List.setIfInBounds_toArray l i a
theorem nB {α : Type} {x a : α} {l : List α} : (x :: l).set 0 a = a :: l := List.set_cons_zero
theorem nC {α : Type} {x a : α} {l : List α} {n : Nat} : (x :: l).set (n + 1) a = x :: l.set n a := List.set_cons_succ
set_option maxRecDepth 100000
open Go.RowKit

/-- Outside F what was there is as it was; nothing is lost. -/
structure Keeps (F : Nat → Prop) (w w' : World) : Prop where
  os : w'.os = w.os
  tape : w'.tape = w.tape
  output : w'.output = w.output
  size : w.heap.size ≤ w'.heap.size
  block : ∀ k, k < w.heap.size → ¬ F k → w'.heap[k]? = w.heap[k]?

namespace Keeps
variable {F G : Nat → Prop} {a w w' : World}
theorem refl (F : Nat → Prop) (w : World) : Keeps F w w := ⟨rfl, rfl, rfl, Nat.le_refl _, fun _ _ _ => rfl⟩
theorem mono (h : Keeps F w w') (hs : ∀ k, F k → G k) : Keeps G w w' := ⟨h.os, h.tape, h.output, h.size, fun k hk hg => h.block k hk (fun hf => hg (hs k hf))⟩
theorem trans (h : Keeps F a w) (k : Keeps G w w') (hs : ∀ k, G k → F k ∨ a.heap.size ≤ k) : Keeps F a w' :=
  ⟨k.os.trans h.os, k.tape.trans h.tape, k.output.trans h.output, Nat.le_trans h.size k.size, fun i hi hf =>
    (k.block i (Nat.lt_of_lt_of_le hi h.size) (fun hg => by rcases hs i hg with h1 | h1; exact hf h1; omega)).trans (h.block i hi hf)⟩
theorem trans' (h : Keeps F a w) (k : Keeps F w w') : Keeps F a w' := h.trans k fun _ h => .inl h
theorem alloc (h : Keeps F a w) (o : Obj) : Keeps F a (w.alloc o) :=
  h.trans (G := fun _ => False) ⟨rfl, rfl, rfl, by simp, fun k hk _ => Below.heap_alloc _ _ _ hk⟩ (by simp)
theorem setCell (h : Keeps F a w) {p : Addr} (hp : F p.block ∨ a.heap.size ≤ p.block) (v : Value) : Keeps F a (w.setCell p v) :=
  h.trans (G := fun k => k = p.block) ⟨rfl, rfl, rfl, by simp, fun k _ hk => Below.heap_setCell _ _ _ _ hk⟩ (by rintro k rfl; exact hp)
theorem set (h : Keeps F a w) (b o : Nat) (hp : F b ∨ a.heap.size ≤ b) (v : Value) : Keeps F a (w.setCell ⟨b, o, none⟩ v) := h.setCell hp v
theorem one (w : World) (p : Addr) (v : Value) : Keeps (fun k => k = p.block) w (w.setCell p v) := ⟨rfl, rfl, rfl, by simp, fun _ _ hk => Below.heap_setCell _ _ _ _ hk⟩
theorem drew (h : Keeps F a w) : Keeps F a w.drew := ⟨h.os, h.tape, h.output, h.size, h.block⟩
theorem drewN (h : Keeps F a w) (n : Nat) : Keeps F a (w.drewN n) := ⟨h.os, h.tape, h.output, h.size, h.block⟩
theorem grown {row : Option Nat} (h : Keeps F a w) (hg : w.grownBy w' row) (hr : ∀ k, row = some k → F k ∨ a.heap.size ≤ k) : Keeps F a w' :=
  h.trans (G := fun k => row = some k) ⟨hg.os, hg.tape, hg.output, hg.size, fun k hk hn => hg.block k hk (fun e => hn e.symm)⟩ hr
theorem cell (h : Keeps F w w') {p : Addr} (hp : ¬ F p.block) (hl : p.block < w.heap.size) : w'.cell? p = w.cell? p := World.cell?_of_block (w := w) (h.block _ hl hp)
theorem frozen (h : Keeps F w w') {p : Addr} (hp : ¬ F p.block) (hl : p.block < w.heap.size) : w'.frozen? p = w.frozen? p := World.frozen?_of_block (w := w) (h.block _ hl hp)
theorem cellSome (h : Keeps F w w') {p : Addr} {v : Value} (hp : ¬ F p.block) (hc : w.cell? p = some v) : w'.cell? p = some v := (h.cell hp (World.block_lt_of_cell? w p hc)).trans hc
theorem below {B : Nat} (h : Keeps F w w') (hF : ∀ k, F k → B ≤ k) (hB : B ≤ w.heap.size) : Below B w w' :=
  ⟨h.os, h.tape, h.output, h.size, fun k hk => h.block k (by omega) (fun hf => by have := hF k hf; omega)⟩
theorem ofBelow (h : Below w.heap.size w w') : Keeps F w w' := ⟨h.os, h.tape, h.output, h.size, fun k hk _ => h.block k hk⟩
theorem heapSome (h : Keeps F w w') {b : Nat} {o : Obj} (hp : ¬ F b) (hc : w.heap[b]? = some o) : w'.heap[b]? = some o :=
  (h.block b (Array.getElem?_eq_some_iff.1 hc).1 hp).trans hc
end Keeps

/-- Block b holds just these cells. -/
def Blk (w : World) (b : Nat) (cs : Array Value) (T : TypeId) : Prop := w.heap[b]? = some (.cells cs T (0, 0))
namespace Blk
variable {w w' : World} {b : Nat} {cs : Array Value} {T : TypeId}
theorem lt (h : Blk w b cs T) : b < w.heap.size := (Array.getElem?_eq_some_iff.1 h).1
theorem cell (h : Blk w b cs T) (i : Nat) : w.cell? ⟨b, i, none⟩ = cs[i]? := by simp only [Blk] at h; simp [World.cell?, h]
theorem frozen (h : Blk w b cs T) (i : Nat) : w.frozen? ⟨b, i, none⟩ = false := by simp only [Blk] at h; simp [World.frozen?, h]
theorem keeps {F : Nat → Prop} (h : Blk w b cs T) (k : Keeps F w w') (hp : ¬ F b) : Blk w' b cs T := k.heapSome hp h
theorem below {B : Nat} (h : Blk w b cs T) (k : Below B w w') (hp : b < B) : Blk w' b cs T := (k.block b hp).trans h
theorem alloc (h : Blk w b cs T) (o : Obj) : Blk (w.alloc o) b cs T := (Below.heap_alloc _ _ _ h.lt).trans h
theorem new (w : World) (cs : Array Value) (T : TypeId) : Blk (w.alloc (.cells cs T)) w.heap.size cs T := heap_alloc_new w _
theorem drew (h : Blk w b cs T) : Blk w.drew b cs T := h
theorem drewN (h : Blk w b cs T) (n : Nat) : Blk (w.drewN n) b cs T := h
theorem other (h : Blk w b cs T) {a : Addr} (hne : b ≠ a.block) (v : Value) : Blk (w.setCell a v) b cs T := (Below.heap_setCell _ _ _ _ hne).trans h
theorem set (h : Blk w b cs T) (i : Nat) (v : Value) : Blk (w.setCell ⟨b, i, none⟩ v) b (cs.setIfInBounds i v) T := by
  unfold Blk at *
  simp [World.setCell, Array.getElem?_modify, h]
end Blk

def ints (l : List Int) : List Value := l.map (.int .i64)
theorem ints_length (l : List Int) : (ints l).length = l.length := by simp [ints]
theorem ints_get (l : List Int) (i : Nat) (h : i < l.length) : (ints l)[i]? = some (.int .i64 (l.getD i 0)) := by
  simp [ints, List.getElem?_eq_getElem h, List.getD_eq_getElem?_getD]
theorem ints_set (l : List Int) (i : Nat) (v : Int) : (ints l).set i (.int .i64 v) = ints (l.set i v) := by
  simp [ints, List.map_set]
theorem ints_append (l m : List Int) : ints (l ++ m) = ints l ++ ints m := by simp [ints]
theorem ints_one (l : List Int) : ∀ u ∈ ints l, u.oneCell' = true := by
  intro u hu
  obtain ⟨x, _, rfl⟩ := List.mem_map.1 hu
  rfl

/-- A row of the program's own. -/
abbrev Own (w : World) (e : TypeId) (size : Nat) (v : Value) (n : Nat) (xs : List Value) : Prop := w.ownsRow 0 e size v n xs

theorem own_lt {w : World} {e : TypeId} {size : Nat} {v : Value} {n : Nat} {xs : List Value} (h : Own w e size v n xs) {k : Nat} (hk : v.ownBlock = some k) : k < w.heap.size := (h.lt k hk).2
theorem own_keeps {F : Nat → Prop} {w w' : World} {e : TypeId} {size : Nat} {v : Value} {n : Nat} {xs : List Value} (h : Own w e size v n xs) (k : Keeps F w w') (hd : ∀ b, v.ownBlock = some b → ¬ F b) : Own w' e size v n xs := by
  obtain ⟨h1, h2⟩ := h
  refine ⟨h1, ?_⟩
  rcases h2 with h2 | ⟨g, cap, cur, rfl, hb, hh, r⟩
  · exact .inl h2
  · exact .inr ⟨g, cap, cur, rfl, hb, k.heapSome (hd g rfl) hh, r⟩
theorem own_shape {w : World} {e : TypeId} {size : Nat} {v : Value} {n : Nat} {xs : List Value} (h : Own w e size v n xs) : ∃ a c, v = .slice a n c := by
  rcases h.2 with ⟨rfl, rfl⟩ | ⟨g, cap, cur, rfl, _⟩
  · exact ⟨none, 0, rfl⟩
  · exact ⟨_, cap, rfl⟩
theorem own_open {w : World} {e : TypeId} {size : Nat} {v : Value} {n : Nat} {xs : List Value} (h : Own w e size v n xs) (hn : 0 < n) : ∃ g c, v = .slice (some ⟨g, 0, none⟩) n c ∧ n ≤ c ∧ c ≤ maxLen := by
  rcases h.2 with ⟨_, rfl⟩ | ⟨g, cap, cur, rfl, _, _, h1, h2, _⟩
  · omega
  · exact ⟨g, cap, rfl, h1, h2⟩
theorem own_type_ne {w : World} {e e' : TypeId} {s s' n n' : Nat} {v v' : Value} {xs xs' : List Value} (h : Own w e s v n xs) (h' : Own w e' s' v' n' xs') (hne : e ≠ e') {k : Nat} (hk : v.ownBlock = some k) : v'.ownBlock ≠ some k := by
  intro hk'
  rcases h.2 with ⟨rfl, _⟩ | ⟨g, cap, cur, rfl, _, hh, _⟩
  · simp [Value.ownBlock] at hk
  rcases h'.2 with ⟨rfl, _⟩ | ⟨g', cap', cur', rfl, _, hh', _⟩
  · simp [Value.ownBlock] at hk'
  obtain rfl : g = k := by simpa [Value.ownBlock] using hk
  obtain rfl : g' = g := by simpa [Value.ownBlock] using hk'
  rw [hh] at hh'
  injection hh' with hh'
  injection hh' with _ ht
  exact hne ht
theorem own_blk_ne {w : World} {e T : TypeId} {s n b : Nat} {v : Value} {xs : List Value} {cs : Array Value} (h : Own w e s v n xs) (h' : Blk w b cs T) (hne : e ≠ T) : v.ownBlock ≠ some b := by
  intro hk
  rcases h.2 with ⟨rfl, _⟩ | ⟨g, cap, cur, rfl, _, hh, _⟩
  · simp [Value.ownBlock] at hk
  obtain rfl : g = b := by simpa [Value.ownBlock] using hk
  unfold Blk at h'
  rw [hh] at h'
  injection h' with hh'
  injection hh' with _ ht
  exact hne ht

theorem own_lit (w : World) (e : TypeId) (cs : List Value) (hm : cs.length ≤ maxLen) : Own (w.alloc (.cells cs.toArray e)) e 1 (.slice (some ⟨w.heap.size, 0, none⟩) cs.length cs.length) cs.length cs := by
  have := World.ownsRow_lit (base := 0) (e := e) (size := 1) w cs.toArray cs.length (Nat.zero_le _) hm (by simp)
  simpa using this
theorem own_made (w : World) (e : TypeId) (z : Value) (n : Nat) (hm : n ≤ maxLen) : Own (w.alloc (.cells (madeCells #[z] n) e)) e 1 (.slice (some ⟨w.heap.size, 0, none⟩) n n) n (List.replicate n z) := by
  have h := World.ownsRow_lit (base := 0) (e := e) (size := 1) w (madeCells #[z] n) n (Nat.zero_le _) hm (by simp [size_madeCells])
  rwa [toList_madeCells_one] at h
section
variable {P : Program} (w : World)
set_option maxHeartbeats 800000 in
/-- append(s, make([]T, k)...) onto a row of the program's own: it has k zeros more. -/
theorem run_append_zeros_own (t tn ty e : TypeId) (kq kn : IntKind) (z : Value) (bytes : Nat) (ht : P.underlying t = some (.slice e)) (htn : P.underlying tn = some (.int kn))
    (hinfo : (P.info? e).map (fun i => (i.zero, i.size, i.bytes)) = some (some z, 1, bytes)) (hz1 : z.cells = #[z]) (hzo : z.oneCell' = true) (hb0 : 0 < bytes)
    (v : Value) (n : Nat) (xs : List Value) (hown : Own w e 1 v n xs) (k : Nat) (h0 : 0 < k) (hbytes : (n + k) * bytes ≤ 140737488355328) :
    ∃ v' w', (Builtin.append_ #[t, tn] ty #[v, .int kq k]).run P w = .ok v' w' ∧ Own w' e 1 v' (n + k) (xs ++ List.replicate k z) ∧ w.grownBy w' v.ownBlock ∧
      (v'.ownBlock = v.ownBlock ∨ v'.ownBlock = some w.heap.size) := by
  obtain ⟨i, hi, hz, hsize, hby⟩ := info_parts hinfo
  subst hby
  have hnk : n + k ≤ 140737488355328 := Nat.le_trans (Nat.le_mul_of_pos_right _ hb0) hbytes
  have hx1 := hown.1
  have hlen : (xs ++ List.replicate k z).length = (n + k) * 1 := by simp [hx1]
  have hzc : ∀ j, Builtin.zeroCells z.cells j = Array.replicate j z := by
    intro j
    apply Array.ext
    · simp [Builtin.zeroCells, hz1]
    · intro q h1 h2
      simp [Builtin.zeroCells, hz1, Nat.mod_one]
  have hkb : k * i.bytes ≤ 281474976710656 := by
    have : k * i.bytes ≤ (n + k) * i.bytes := Nat.mul_le_mul_right _ (by omega)
    omega
  rcases hown.2 with ⟨rfl, rfl⟩ | ⟨g, cap, cur, rfl, hbg, hg, hnc, hcm, hcs, htake⟩
  · have hx : xs = [] := List.eq_nil_of_length_eq_zero (by simpa using hx1)
    subst hx
    have hr := Lib.run_append_grow_zeros (P := P) w t tn ty e i z kq kn ht htn hi hz none 0 0 [] (by simp [Builtin.firstCells]) k h0 (by omega) (by omega) (by simp only [Nat.zero_add]; omega) hkb (growslice_fits (by omega) hbytes)
    have hge := grownCap_ge w (0 + k) 0 e
    have hcm := grownCap_le_maxLen w (0 + k) 0 e (by simp only [maxLen]; omega)
    refine ⟨_, _, hr, ⟨hlen, .inr ⟨w.heap.size, _, _, rfl, Nat.zero_le _, heap_alloc_new w.drew _, hge, hcm, ?_, ?_⟩⟩, ⟨rfl, rfl, rfl, by simp, fun q hq _ => Below.heap_alloc w.drew _ q hq⟩, .inr rfl⟩
    · simp only [hzc, Array.size_append, Array.size_replicate, List.size_toArray, List.length_nil]
      omega
    · simp [hzc]
  · by_cases hroom : n + k ≤ cap
    · have hst := run_storeCells_at P g n e (List.replicate k z) 0 cur w hg (by simp only [List.length_replicate]; omega) (by intro u hu; rw [List.eq_of_mem_replicate hu]; exact hzo)
      have hw' : IntKind.i64.wrap (k : Int) = k := by rw [IntKind.wrap_i64]; omega
      have hneg : ¬ ((k : Int) < 0) := by omega
      have h48i : ¬ (281474976710656 < (k : Int) * (i.bytes : Int)) := by
        rw [← Int.natCast_mul]
        omega
      have hk0 : k ≠ 0 := by omega
      refine ⟨.slice (some ⟨g, 0, none⟩) (n + k) cap, w.setRow g (cur.toList.take n ++ List.replicate k z ++ cur.toList.drop (n + k)).toArray, ?_, ⟨hlen, .inr ⟨g, cap, _, rfl, hbg, setRow_heap w g cur _ e _ hg, hroom, hcm, ?_, ?_⟩⟩, ⟨rfl, rfl, rfl, by simp, fun k _ hk => setRow_other w g k _ (fun e => hk (by simp [Value.ownBlock, e]))⟩, .inl rfl⟩
      · have hadd : (⟨g, 0, none⟩ : Addr).add n = ⟨g, n, none⟩ := by unfold Addr.add; split <;> simp_all
        simp only [Nat.add_zero, List.length_replicate] at hst
        simp [Builtin.append_, run_underlying ht, run_underlying htn, sizeOf, typeInfo, zeroValue, hi, hz, hsize, asInt, asIntOf, hw', hneg, h48i, hk0, hroom, hadd, hzc, hst]
      · simp only [List.size_toArray, List.length_append, List.length_take, List.length_drop, List.length_replicate, Array.length_toList]
        omega
      · have hxs : xs = cur.toList.take n := by simpa using htake.symm
        rw [hxs, List.take_left']
        simp only [List.length_append, List.length_take, List.length_replicate, Array.length_toList]
        omega
    · have holds : ∀ j u, xs[j]? = some u → w.drew.cell? ((⟨g, 0, none⟩ : Addr).add j) = some u := hown.cells (g := g) rfl
      have hr := Lib.run_append_grow_zeros (P := P) w t tn ty e i z kq kn ht htn hi hz (some ⟨g, 0, none⟩) n cap xs (run_firstCells_some w.drew i.size n _ n cap xs (by simp [hsize, hx1]) holds) k h0 (by omega) (by omega) (by omega) hkb (growslice_fits (by omega) hbytes)
      have hge := grownCap_ge w (n + k) cap e
      have hcm := grownCap_le_maxLen w (n + k) cap e (by simp only [maxLen]; omega)
      refine ⟨_, _, hr, ⟨hlen, .inr ⟨w.heap.size, _, _, rfl, Nat.zero_le _, heap_alloc_new w.drew _, hge, hcm, ?_, ?_⟩⟩, ⟨rfl, rfl, rfl, by simp, fun q hq _ => Below.heap_alloc w.drew _ q hq⟩, .inr rfl⟩
      · simp only [hzc, Array.size_append, Array.size_replicate, List.size_toArray]
        omega
      · have hl2 : (n + k) * 1 = (xs ++ List.replicate k z).length := by rw [hlen]
        rw [hl2, hzc, hzc]
        simp only [Array.toList_append, Array.toList_replicate]
        exact List.take_left

theorem wpList_append_zeros_own {ops : Array Oper} {rest : List Oper} {o : Oper} {a : Act} {Q : Exit → Act → World → Prop} (hgd : o.guard = none) (s x : Operand) (t tn e : TypeId)
    (ho : o.op = .call { callee := .builtin .append, args := #[s, x], argTypes := #[t, tn] })
    (kq kn : IntKind) (z : Value) (bytes : Nat) (ht : P.underlying t = some (.slice e)) (htn : P.underlying tn = some (.int kn))
    (hinfo : (P.info? e).map (fun i => (i.zero, i.size, i.bytes)) = some (some z, 1, bytes)) (hz1 : z.cells = #[z]) (hzo : z.oneCell' = true) (hb0 : 0 < bytes)
    (v : Value) (n : Nat) (xs : List Value) (hs : a.eval s = v) (hown : Own w e 1 v n xs) (k : Nat) (hx : a.eval x = .int kq k) (h0 : 0 < k) (hbytes : (n + k) * bytes ≤ 140737488355328)
    (h : ∀ v' w', Own w' e 1 v' (n + k) (xs ++ List.replicate k z) → w.grownBy w' v.ownBlock → (v'.ownBlock = v.ownBlock ∨ v'.ownBlock = some w.heap.size) → wpList P ops Q rest (a.put o.dst v') w') :
    wpList P ops Q (o :: rest) a w := by
  refine wpList_plain hgd fun K hK => ?_
  obtain ⟨v', w', hr, h2, h3, h4⟩ := run_append_zeros_own (P := P) w t tn o.type e kq kn z bytes ht htn hinfo hz1 hzo hb0 v n xs hown k h0 hbytes
  unfold Oper.wp execOp
  simp only [ho, resolve, invoke, builtin, Sem.run_bind, Sem.run_pure, Result.andThen_ok, List.map_toArray, List.map_cons, List.map_nil, hs, hx, hr]
  exact hK _ _ (h v' w' h2 h3 h4)
end

end Go.Proofs.Ytjfenjnnpikkdaa
/- Slices of ints that are read; rows known to the cell; copy, clear, append within the room. -/
namespace Go.Proofs.Ytjfenjnnpikkdaa
set_option maxRecDepth 100000
open Go.RowKit

/-- A slice of ints that reads as xs. -/
def Rd (w : World) (v : Value) (xs : List Int) : Prop :=
  ∃ a c, v = .slice a xs.length c ∧ xs.length ≤ c ∧ c ≤ 9223372036854775807 ∧ (0 < xs.length → ∃ b o, a = some ⟨b, o, none⟩ ∧ b < w.heap.size ∧ ∀ i, i < xs.length → w.cell? ⟨b, o + i, none⟩ = some (.int .i64 (xs.getD i 0)))
theorem Rd.below {w w' : World} {v : Value} {xs : List Int} (h : Rd w v xs) {B : Nat} (hb : Below B w w') (hB : w.heap.size ≤ B) : Rd w' v xs := by
  obtain ⟨a, c, e, h1, h2, h3⟩ := h
  refine ⟨a, c, e, h1, h2, fun hl => ?_⟩
  obtain ⟨b, o, e2, hlt, hc⟩ := h3 hl
  exact ⟨b, o, e2, Nat.lt_of_lt_of_le hlt hb.size, fun i hi => (hb.cell (p := ⟨b, o + i, none⟩) (Nat.lt_of_lt_of_le hlt hB)).trans (hc i hi)⟩
theorem Rd.keeps {F : Nat → Prop} {w w' : World} {v : Value} {xs : List Int} (h : Rd w v xs) (k : Keeps F w w') (hd : ∀ b, v.ownBlock = some b → ¬ F b) : Rd w' v xs := by
  obtain ⟨a, c, rfl, h1, h2, h3⟩ := h
  refine ⟨a, c, rfl, h1, h2, fun hl => ?_⟩
  obtain ⟨b, o, e2, hlt, hc⟩ := h3 hl
  refine ⟨b, o, e2, Nat.lt_of_lt_of_le hlt k.size, fun i hi => k.cellSome (hd b ?_) (hc i hi)⟩
  rw [e2]
  rfl
theorem Rd.alloc {w : World} {v : Value} {xs : List Int} (h : Rd w v xs) (o : Obj) : Rd (w.alloc o) v xs := h.below ((Below.refl _ w).alloc (Nat.le_refl _) o) (Nat.le_refl _)
theorem Rd.drew {w : World} {v : Value} {xs : List Int} (h : Rd w v xs) : Rd w.drew v xs := h
theorem Rd.drewN {w : World} {v : Value} {xs : List Int} (h : Rd w v xs) (n : Nat) : Rd (w.drewN n) v xs := h
theorem rd_nil (w : World) : Rd w (.slice none 0 0) [] := ⟨none, 0, rfl, by simp, by simp, by simp⟩
theorem own_rd {w : World} {e : TypeId} {v : Value} {n : Nat} {xs : List Int} (h : Own w e 1 v n (ints xs)) : Rd w v xs := by
  have hl : xs.length = n := by have := h.1; simpa [ints] using this
  subst hl
  rcases h.2 with ⟨rfl, e0⟩ | ⟨g, cap, cur, rfl, _, hh, h1, h2, _⟩
  · have : xs = [] := List.eq_nil_of_length_eq_zero e0
    subst this
    exact rd_nil w
  · simp only [maxLen] at h2
    refine ⟨_, _, rfl, h1, by omega, fun hl => ⟨g, 0, rfl, (Array.getElem?_eq_some_iff.1 hh).1, fun i hi => ?_⟩⟩
    rw [Nat.zero_add, World.ownsRow.cellAt h i (by omega), ints_get _ _ hi]
/-- What a walk takes of it. -/
theorem Rd.view {w : World} {v : Value} {xs : List Int} (h : Rd w v xs) : ∃ (n : Nat) (a : Option Addr) (c : Nat) (f : Nat → Int), v = .slice a n c ∧ n = xs.length ∧ n ≤ c ∧ c ≤ 9223372036854775807 ∧ (∀ i, f i = xs.getD i 0) ∧
    (0 < n → ∃ b o, a = some ⟨b, o, none⟩ ∧ b < w.heap.size ∧ ∀ i, i < n → w.cell? ⟨b, o + i, none⟩ = some (.int .i64 (f i))) := by
  obtain ⟨a, c, e, h1, h2, h3⟩ := h
  exact ⟨_, a, c, fun i => xs.getD i 0, e, rfl, h1, h2, fun _ => rfl, h3⟩
theorem Rd.news {w : World} {v : Value} {xs : List Int} (h : Rd w v xs) : ∃ a c, v = .slice a xs.length c ∧ ∀ ad, a = some ad → ∀ j u, (ints xs)[j]? = some u → w.cell? (ad.add j) = some u := by
  obtain ⟨a, c, e, h1, h2, h3⟩ := h
  refine ⟨a, c, e, fun ad had j u hu => ?_⟩
  have hj : j < xs.length := by
    have := (List.getElem?_eq_some_iff.1 hu).1
    simpa [ints] using this
  obtain ⟨b, o, e2, _, hc⟩ := h3 (by omega)
  rw [had] at e2
  injection e2 with e2
  subst e2
  rw [ints_get _ _ hj] at hu
  injection hu with hu
  subst hu
  rw [show (⟨b, o, none⟩ : Addr).add j = ⟨b, o + j, none⟩ by unfold Addr.add; split <;> simp_all]
  exact hc j hj

theorem Blk.news {w : World} {b : Nat} {cs : Array Value} {T : TypeId} (h : Blk w b cs T) : ∀ j u, cs.toList[j]? = some u → w.cell? ((⟨b, 0, none⟩ : Addr).add j) = some u := fun j u hu => by
  rw [show (⟨b, 0, none⟩ : Addr).add j = ⟨b, j, none⟩ by unfold Addr.add; split <;> simp_all, h.cell j]
  simpa using hu

/-- A row in block g, known to the cell. -/
def RowAt (w : World) (e : TypeId) (g : Nat) (cur : List Value) : Prop := w.heap[g]? = some (.cells cur.toArray e (0, 0))
theorem RowAt.lt {w : World} {e : TypeId} {g : Nat} {cur : List Value} (h : RowAt w e g cur) : g < w.heap.size := (Array.getElem?_eq_some_iff.1 h).1
theorem RowAt.cell {w : World} {e : TypeId} {g : Nat} {cur : List Value} (h : RowAt w e g cur) (i : Nat) : w.cell? ⟨g, i, none⟩ = cur[i]? := by unfold RowAt at h; simp [World.cell?, h]
theorem RowAt.frozen {w : World} {e : TypeId} {g : Nat} {cur : List Value} (h : RowAt w e g cur) (i : Nat) : w.frozen? ⟨g, i, none⟩ = false := by unfold RowAt at h; simp [World.frozen?, h]
theorem RowAt.set {w : World} {e : TypeId} {g : Nat} {cur : List Value} (h : RowAt w e g cur) (cs : List Value) : RowAt (w.setRow g cs.toArray) e g cs := setRow_heap w g _ _ e _ h
theorem RowAt.drew {w : World} {e : TypeId} {g : Nat} {cur : List Value} (h : RowAt w e g cur) : RowAt w.drew e g cur := h
theorem RowAt.own {w : World} {e : TypeId} {g n cap : Nat} {cur : List Value} (h : RowAt w e g cur) (h1 : n ≤ cap) (h2 : cap ≤ maxLen) (h3 : cur.length = cap) : Own w e 1 (.slice (some ⟨g, 0, none⟩) n cap) n (cur.take n) :=
  ⟨by simp; omega, .inr ⟨g, cap, cur.toArray, rfl, Nat.zero_le _, h, h1, h2, by simpa using h3, by simp⟩⟩
theorem own_row {w : World} {e : TypeId} {g n cap m : Nat} {xs : List Value} (h : Own w e 1 (.slice (some ⟨g, 0, none⟩) n cap) m xs) : m = n ∧ n ≤ cap ∧ cap ≤ maxLen ∧ xs.length = n ∧ ∃ rest, RowAt w e g (xs ++ rest) ∧ (xs ++ rest).length = cap := by
  obtain ⟨h0, h2 | ⟨g', cap', cur, e2, _, hh, h1, h2, h3, h4⟩⟩ := h
  · simp at h2
  · simp at e2
    obtain ⟨rfl, rfl, rfl⟩ := e2
    have e5 : xs ++ cur.toList.drop n = cur.toList := by
      have h4' : xs = cur.toList.take n := by simpa using h4.symm
      rw [h4', List.take_append_drop]
    refine ⟨rfl, h1, h2, by simpa using h0, cur.toList.drop n, ?_, ?_⟩
    · unfold RowAt
      rw [e5]
      simpa using hh
    · rw [e5]
      simpa using h3
theorem keeps_setRow (w : World) (g : Nat) (cs : Array Value) : Keeps (fun k => k = g) w (w.setRow g cs) := ⟨rfl, rfl, rfl, by simp, fun k _ hk => setRow_other w g k _ hk⟩

section
variable {P : Program} (w : World)
/-- copy into a row, known to the cell. -/
theorem run_copy_row (t ty e : TypeId) (i : TypeInfo) (ht : P.underlying t = some (.slice e)) (hi : P.info? e = some i) (hsize : i.size = 1) (g o dl dc : Nat) (cur : List Value) (hg : RowAt w e g cur)
    (src : Value) (ms m : Nat) (news : List Value) (hl : news.length = m) (hsrc : ∃ a c, src = .slice a ms c ∧ (0 < m → ∃ ad, a = some ad ∧ ∀ j u, news[j]? = some u → w.cell? (ad.add j) = some u)) (h1 : ∀ u ∈ news, u.oneCell' = true) (hm : Nat.min ms dl = m) (hfit : o + m ≤ cur.length) :
    (Builtin.copy_ #[t, t] ty #[.slice (some ⟨g, o, none⟩) dl dc, src]).run P w = .ok (.int .i64 m) (w.setRow g (cur.take o ++ news ++ cur.drop (o + m)).toArray) := by
  obtain ⟨a, c, rfl, hsrc⟩ := hsrc
  subst hl
  have hst := run_storeCells_at P g o e news 0 cur.toArray w hg (by simpa using hfit) h1
  have hf : (Builtin.firstCells 1 news.length (.slice a ms c)).run P w = .ok news.toArray w := by
    by_cases h0 : 0 < news.length
    · obtain ⟨ad, rfl, hc⟩ := hsrc h0
      exact run_firstCells_some w 1 news.length ad ms c news (by simp) hc
    · have : news = [] := List.eq_nil_of_length_eq_zero (by omega)
      subst this
      cases a with
      | none => simp [Builtin.firstCells]
      | some ad => exact run_firstCells_some w 1 0 ad ms c [] (by simp) (by simp)
  simp only [Nat.add_zero] at hst
  simp [Builtin.copy_, run_underlying ht, sizeOf, typeInfo, hi, hsize, Builtin.lenOf, hm, hf, hst, goInt]
/-- clear of a part of a row, known to the cell. -/
theorem run_clear_row (t ty e : TypeId) (z : Value) (ht : P.underlying t = some (.slice e)) (hv : ∀ w, (zeroValue e).run P w = .ok z w) (hz : z.cells = #[z]) (h1 : z.oneCell' = true) (g o n c : Nat) (hn : 0 < n) (cur : List Value) (hg : RowAt w e g cur) (hfit : o + n ≤ cur.length) :
    (Builtin.clear_ #[t] ty #[.slice (some ⟨g, o, none⟩) n c]).run P w = .ok (.tuple #[]) (w.setRow g (cur.take o ++ List.replicate n z ++ cur.drop (o + n)).toArray) := by
  have hzc : (Builtin.zeroCells z.cells n).toList = List.replicate n z := by
    rw [hz]
    simp [Builtin.zeroCells]
    apply List.ext_getElem
    · simp
    · intro i h1 h2
      simp [Nat.mod_one]
  have hst := run_storeCells_at P g o e (List.replicate n z) 0 cur.toArray w hg (by simpa using hfit) (by intro v hv'; rw [List.eq_of_mem_replicate hv']; exact h1)
  simp only [Nat.add_zero] at hst
  obtain ⟨m, rfl⟩ : ∃ m, n = m + 1 := ⟨n - 1, by omega⟩
  simp [Builtin.clear_, run_underlying ht, hv, hzc, hst]
/-- append within the room of a row, known to the cell. -/
theorem run_append_row (t ty e : TypeId) (i : TypeInfo) (ht : P.underlying t = some (.slice e)) (hi : P.info? e = some i) (hsize : i.size = 1) (g sLen sCap : Nat) (cur : List Value) (hg : RowAt w e g cur)
    (src : Value) (m : Nat) (news : List Value) (hl : news.length = m) (hsrc : ∃ a c, src = .slice a m c ∧ (0 < m → ∃ ad, a = some ad ∧ ∀ j u, news[j]? = some u → w.cell? (ad.add j) = some u)) (h1 : ∀ u ∈ news, u.oneCell' = true) (hroom : sLen + m ≤ sCap) (hfit : sLen + m ≤ cur.length) :
    (Builtin.append_ #[t, t] ty #[.slice (some ⟨g, 0, none⟩) sLen sCap, src]).run P w = .ok (.slice (some ⟨g, 0, none⟩) (sLen + m) sCap) (w.setRow g (cur.take sLen ++ news ++ cur.drop (sLen + m)).toArray) := by
  obtain ⟨a, c, rfl, hsrc⟩ := hsrc
  subst hl
  have hst := run_storeCells_at P g sLen e news 0 cur.toArray w hg (by simpa using hfit) h1
  have hf : (Builtin.firstCells 1 news.length (.slice a news.length c)).run P w = .ok news.toArray w := by
    by_cases h0 : 0 < news.length
    · obtain ⟨ad, rfl, hc⟩ := hsrc h0
      exact run_firstCells_some w 1 news.length ad news.length c news (by simp) hc
    · have : news = [] := List.eq_nil_of_length_eq_zero (by omega)
      subst this
      cases a with
      | none => simp [Builtin.firstCells]
      | some ad => exact run_firstCells_some w 1 0 ad 0 c [] (by simp) (by simp)
  have hadd : (⟨g, 0, none⟩ : Addr).add sLen = ⟨g, sLen, none⟩ := by unfold Addr.add; split <;> simp_all
  simp only [Nat.add_zero] at hst
  simp [Builtin.append_, run_underlying ht, sizeOf, typeInfo, hi, hsize, Builtin.lenOf, hroom, hf, hadd, hst]

theorem wpList_append2 {ops : Array Oper} {rest : List Oper} {o : Oper} {a : Act} {Q : Exit → Act → World → Prop} (hgd : o.guard = none) (s x : Operand) (t tn : TypeId)
    (ho : o.op = .call { callee := .builtin .append, args := #[s, x], argTypes := #[t, tn] }) (v u : Value) (hs : a.eval s = v) (hx : a.eval x = u) {r : Value} {w' : World} (hrun : ∀ ty, (Builtin.append_ #[t, tn] ty #[v, u]).run P w = .ok r w')
    (h : wpList P ops Q rest (a.put o.dst r) w') : wpList P ops Q (o :: rest) a w := by
  refine wpList_plain hgd fun K hK => ?_
  unfold Oper.wp execOp
  simp only [ho, resolve, invoke, builtin, Sem.run_bind, Sem.run_pure, Result.andThen_ok, List.map_toArray, List.map_cons, List.map_nil, hs, hx, hrun]
  exact hK _ _ h
theorem wpList_copy2 {ops : Array Oper} {rest : List Oper} {o : Oper} {a : Act} {Q : Exit → Act → World → Prop} (hgd : o.guard = none) (s x : Operand) (t tn : TypeId)
    (ho : o.op = .call { callee := .builtin .copy, args := #[s, x], argTypes := #[t, tn] }) (v u : Value) (hs : a.eval s = v) (hx : a.eval x = u) {r : Value} {w' : World} (hrun : ∀ ty, (Builtin.copy_ #[t, tn] ty #[v, u]).run P w = .ok r w')
    (h : wpList P ops Q rest (a.put o.dst r) w') : wpList P ops Q (o :: rest) a w := by
  refine wpList_plain hgd fun K hK => ?_
  unfold Oper.wp execOp
  simp only [ho, resolve, invoke, builtin, Sem.run_bind, Sem.run_pure, Result.andThen_ok, List.map_toArray, List.map_cons, List.map_nil, hs, hx, hrun]
  exact hK _ _ h
end
end Go.Proofs.Ytjfenjnnpikkdaa
/- Package objs in plain Lean: what its functions compute. -/
namespace Go.Proofs.Ytjfenjnnpikkdaa
set_option maxRecDepth 100000

structure St where
  kind : Int
  L : List Int
  isSealed : Bool
  to : Int
  deriving DecidableEq
structure Op3 where
  code : Int
  a : Int
  b : Int
  deriving DecidableEq

/-- A number within its bounds. -/
def cutI (n : Int) : Int := if n < -1099511627776 then -1099511627776 else if 1099511627776 < n then 1099511627776 else n
theorem cutI_range (n : Int) : -1099511627776 ≤ cutI n ∧ cutI n ≤ 1099511627776 := by unfold cutI; split <;> (try split) <;> omega

def pairsGo (least : Int) : Int → List Int → Bool
  | last, k :: v :: r => if k ≤ last ∨ 255 < k ∨ v < least ∨ 1099511627776 < v then false else pairsGo least k r
  | _, _ => true
def pairsB (l : List Int) (least : Int) : Bool := pairsGo least (-1) l && (decide (l.length % 2 = 0) && decide (l.length ≤ 128))
def withinB (l : List Int) : Bool := !l.any (fun n => n != cutI n)
def mayB (s : St) : Bool :=
  if s.to < 0 ∨ 3 ≤ s.to ∨ (s.isSealed = false ∧ s.to ≠ 0) then false
  else if s.kind = 0 ∨ s.kind = 1 then decide (s.L.length = 1) && withinB s.L
  else if s.kind = 2 ∨ s.kind = 3 then decide (s.L.length ≤ 64) && withinB s.L
  else if s.kind = 4 then pairsB s.L (-1099511627776)
  else if s.kind = 5 then pairsB s.L 0
  else false
def fitsB (o : Op3) : Bool := decide (0 ≤ o.code) && decide (o.code ≤ 10) && (o.a == cutI o.a) && (o.b == cutI o.b)

def findI : List Int → Int → Nat
  | k :: _ :: r, key => if k < key then 2 + findI r key else 0
  | [k], key => if k < key then 2 else 0
  | [], _ => 0
def foundB (l : List Int) (key : Int) : Bool := decide (findI l key < l.length) && (l.getD (findI l key) 0 == key)
def hasI (l : List Int) (key : Int) : Int := if foundB l key then l.getD (findI l key + 1) 0 else -1
def putL (l : List Int) (key n : Int) : List Int := if foundB l key then l.set (findI l key + 1) n else if 128 ≤ l.length then l else l.take (findI l key) ++ [key, n] ++ l.drop (findI l key)
def putB (l : List Int) (key : Int) : Bool := foundB l key || decide (l.length < 128)
def delL (l : List Int) (key : Int) : List Int := l.take (findI l key) ++ l.drop (findI l key + 2)

theorem findI_even : ∀ (l : List Int) (key : Int), findI l key % 2 = 0
  | k :: _ :: r, key => by
    unfold findI
    split
    · have := findI_even r key; omega
    · rfl
  | [k], key => by unfold findI; split <;> rfl
  | [], _ => rfl
theorem findI_le : ∀ (l : List Int) (key : Int), l.length % 2 = 0 → findI l key ≤ l.length
  | k :: v :: r, key, h => by
    have := findI_le r key (by simp at h; omega)
    unfold findI
    split <;> simp <;> omega
  | [k], key, h => by simp at h
  | [], _, _ => Nat.le_refl _

def numberS (s : St) (o : Op3) : St × Int :=
  if o.code = 7 then (s, s.L.getD 0 0)
  else if s.kind = 0 ∧ o.code = 1 then ({ s with L := [cutI (s.L.getD 0 0 + cutI o.a)] }, s.L.getD 0 0)
  else if s.kind = 1 ∧ o.code = 2 then ({ s with L := [cutI o.a] }, s.L.getD 0 0)
  else (s, 0)
def lineS (s : St) (o : Op3) : St × Int :=
  if o.code = 7 then (s, s.L.length)
  else if o.code = 3 ∧ s.L.length < 64 then ({ s with L := s.L ++ [cutI o.a] }, s.L.length + 1)
  else if o.code = 3 ∨ (o.code = 4 ∧ s.L.length = 0) then (s, -1)
  else if o.code ≠ 4 then (s, 0)
  else if s.kind = 2 then ({ s with L := s.L.drop 1 }, s.L.getD 0 0)
  else ({ s with L := s.L.take (s.L.length - 1) }, s.L.getD (s.L.length - 1) 0)
def storeS (s : St) (o : Op3) : St × Int :=
  if ¬ (o.code = 7 ∨ o.code = 6 ∨ o.code = 5) then (s, 0)
  else if o.a < 0 ∨ 255 < o.a then (s, -1)
  else if o.code = 6 ∧ foundB s.L o.a = true then ({ s with L := delL s.L o.a }, hasI s.L o.a)
  else if o.code = 5 then (if putB s.L o.a = true then ({ s with L := putL s.L o.a (cutI o.b) }, hasI s.L o.a) else (s, -2))
  else (s, hasI s.L o.a)
def moveS (s : St) (o : Op3) : St × Int :=
  if o.a < 0 ∨ 65536 ≤ o.a ∨ o.b < 0 then (s, 0)
  else if hasI s.L (o.a / 256) < o.b then (s, 0)
  else if o.a / 256 = o.a % 256 then (s, 1)
  else if putB s.L (o.a % 256) = false ∨ 1099511627776 < max (hasI s.L (o.a % 256)) 0 + o.b then (s, 0)
  else ({ s with L := putL (putL s.L (o.a % 256) (max (hasI s.L (o.a % 256)) 0 + o.b)) (o.a / 256) (hasI s.L (o.a / 256) - o.b) }, 1)
def ledgerS (s : St) (o : Op3) : St × Int :=
  if o.code = 9 then moveS s o
  else if o.code ≠ 7 ∧ o.code ≠ 8 then (s, 0)
  else if o.a < 0 ∨ 255 < o.a then (s, -1)
  else if o.code = 7 then (s, hasI s.L o.a)
  else if o.b < 0 then (s, -1)
  else if putB s.L o.a = true then ({ s with L := putL s.L o.a (cutI (max (hasI s.L o.a) 0 + cutI o.b)) }, cutI (max (hasI s.L o.a) 0 + cutI o.b))
  else (s, -2)
def stepS (s : St) (o : Op3) : St × Int :=
  if mayB s = false then (s, 0)
  else if s.isSealed = true then (s, -1125899906842624)
  else if o.code = 10 then ({ s with isSealed := true, to := if 0 ≤ o.a ∧ o.a < 3 then o.a else s.to }, 0)
  else if s.kind = 0 ∨ s.kind = 1 then numberS s o
  else if s.kind = 2 ∨ s.kind = 3 then lineS s o
  else if s.kind = 4 then storeS s o
  else ledgerS s o
end Go.Proofs.Ytjfenjnnpikkdaa
/- Package slices at []int: Clone, Equal, ContainsFunc (by objs.May's closure), Delete, Insert. -/
namespace Go.Proofs.Ytjfenjnnpikkdaa
set_option maxRecDepth 100000
open Go.RowKit

theorem infoInt : (Try.prog.info? 3).map (fun i => (i.zero, i.size, i.bytes)) = some (some (.int .i64 0), 1, 8) := by kernel_rfl

/-- What Clone leaves: a row of its own. -/
def CloneP (w : World) (xs : List Int) (e : Ending) (w' : World) : Prop :=
  ∃ v', e = .returned v' ∧ Own w' 3 1 v' xs.length (ints xs) ∧ (∀ k, v'.ownBlock = some k → w.heap.size ≤ k) ∧ Below w.heap.size w w'

set_option maxHeartbeats 800000 in
theorem sl_clone {w : World} {v : Value} {xs : List Int} (h : Rd w v xs) (hl : xs.length ≤ 17592186044416) :
    Calls Try.prog 47 #[v] w (CloneP w xs) := by
  obtain ⟨i0, hi, hz0, hz1, hz2⟩ := info_parts infoInt
  obtain ⟨a, c, rfl, hnews⟩ := h.news
  have hq : ∀ (w : World) (a : Option Addr) (n c n' c' : Nat), (binOp .eql 22 (.slice a n c) (.slice none n' c')).run Try.prog w = .ok (.bool a.isNone) w := fun w a n c n' c' => Lib.run_eql_slice_nil w _ _ a n c n' c' Try.underlying22
  cases a with
  | none =>
    have hx : xs = [] := by
      obtain ⟨a, c, e, _, _, h3⟩ := h
      by_cases h0 : 0 < xs.length
      · obtain ⟨b, o, e2, _⟩ := h3 h0
        rw [e2] at e
        simp at e
      · exact List.eq_nil_of_length_eq_zero (by omega)
    subst hx
    have fin : CloneP w [] (.returned (.slice none 0 0)) w := ⟨_, rfl, World.ownsRow_nil .., by simp [Value.ownBlock], Below.refl _ _⟩
    have HF := Lib.hid fin
    clear fin hnews h
    go_enter Try.func47, Try.ntmps47
    go_wp2
    go_ret
    exact HF.out
  | some ad =>
    have hn := hnews ad rfl
    have fin : ∀ v' w1, Own w1 3 1 v' (0 + xs.length) ([] ++ ints xs) → (w.alloc (.cells #[] 3)).grownBy w1 (some w.heap.size) → (v'.ownBlock = some w.heap.size ∨ v'.ownBlock = some (w.heap.size + 1)) → CloneP w xs (.returned v') w1 := by
      intro v' w1 hown hg hat
      refine ⟨v', rfl, by simpa using hown, ?_, ((Below.refl _ w).alloc (Nat.le_refl _) _).grown hg (by simp) (by rintro k ⟨⟩; exact Nat.le_refl _)⟩
      intro k hk
      rcases hat with e | e <;> rw [e] at hk <;> injection hk <;> omega
    have HF := Lib.hid fin
    have HN := Lib.hid hn
    have HO : Own (w.alloc (.cells #[] 3)) 3 1 (.slice (some ⟨w.heap.size, 0, none⟩) 0 0) 0 [] := by
      have := own_lit w 3 [] (by simp)
      simpa using this
    have HW := Lib.hid HO
    have HC : Hid (∀ j u, (ints xs)[j]? = some u → (w.alloc (.cells #[] 3)).cell? (ad.add j) = some u) := fun j u hu => Lib.cell?_alloc_some _ (hn j u hu)
    clear fin hn hnews h HO
    go_enter Try.func47, Try.ntmps47
    go_wp2_with (at_builtin; refine wpList_append_own_at _ rfl _ _ 22 rfl 0 3 i0 (.int .i64 0) 1 8 Try.underlying22 hi hz0 hz1 hz2 rfl (by decide) (.slice (some ⟨w.heap.size, 0, none⟩) 0 0) _ _ rfl HW.out ad xs.length c (ints xs) rfl (by simp [ints]) HC.out (ints_one xs) (by simp only [maxLen]; omega) (by omega) (Nat.zero_le _) ?_; intro v' w1 hown hgrow hnil hat)
    go_ret
    exact HF.out _ _ hown hgrow (by simpa [Value.ownBlock] using hat)

theorem getD_ne {xs ys : List Int} {k : Nat} (h : xs.getD k 0 ≠ ys.getD k 0) : xs ≠ ys := fun e => h (by rw [e])
theorem list_eq_of {xs ys : List Int} (hl : xs.length = ys.length) (h : ∀ k, k < xs.length → xs.getD k 0 = ys.getD k 0) : xs = ys := by
  apply List.ext_getElem hl
  intro i h1 h2
  have := h i h1
  simpa [List.getD_eq_getElem?_getD, List.getElem?_eq_getElem h1, List.getElem?_eq_getElem h2] using this

/-- The function returns b; what was there stays. -/
def Tells (w : World) (b : Bool) (e : Ending) (w' : World) : Prop := e = .returned (.bool b) ∧ Below w.heap.size w w'
theorem ret_i64 {a b : Int} (h : a = b) : Ending.returned (.int .i64 a) = .returned (.int .i64 b) := by rw [h]
theorem o_cut (n : Int) (w : World) : Calls Try.prog 60 #[.int .i64 n] w fun e w' => e = .returned (.int .i64 (cutI n)) ∧ w' = w := by
  by_cases h1 : n < -1099511627776
  · have hc : cutI n = -1099511627776 := by unfold cutI; rw [if_pos h1]
    rw [hc]
    clear hc
    have h2 : n ≤ 1099511627776 := by omega
    go_enter Try.func60, Try.ntmps60
    go_wp2
    all_goals first | (exfalso; omega) | (go_ret; exact ⟨rfl, rfl⟩) | (go_ret; exact ⟨ret_i64 (by omega), rfl⟩)
  · by_cases h2 : 1099511627776 < n
    · have hc : cutI n = 1099511627776 := by unfold cutI; rw [if_neg h1, if_pos h2]
      rw [hc]
      clear hc
      go_enter Try.func60, Try.ntmps60
      go_wp2
      all_goals first | (exfalso; omega) | (go_ret; exact ⟨rfl, rfl⟩) | (go_ret; exact ⟨ret_i64 (by omega), rfl⟩)
    · have hc : cutI n = n := by unfold cutI; rw [if_neg h1, if_neg h2]
      rw [hc]
      clear hc
      go_enter Try.func60, Try.ntmps60
      go_wp2
      all_goals first | (exfalso; omega) | (go_ret; exact ⟨rfl, rfl⟩) | (go_ret; exact ⟨ret_i64 (by omega), rfl⟩)
theorem o_may1 (n : Int) (w : World) : Calls Try.prog 59 #[.int .i64 n] w fun e w' => e = .returned (.bool (n != cutI n)) ∧ w' = w := by
  have HC := Lib.hid (o_cut n w)
  go_enter Try.func59, Try.ntmps59
  go_wp2_with fail
  refine HC.out.mono ?_
  rintro e w' ⟨rfl, rfl⟩
  go_wp2_with fail
  go_ret
  exact ⟨rfl, rfl⟩
theorem call_may1 (args : Array Value) (W : World) : (callFunc 59 args).run Try.prog W = .ok (.enter 59 args) W := by
  go_simp

set_option maxHeartbeats 1600000 in
/-- The first number outside its bounds; -1: none. -/
theorem sl_index {w : World} {v : Value} {xs : List Int} (hx : Rd w v xs) :
    Calls Try.prog 80 #[v, .func (Fn.func 59) #[] #[]] w fun e w' => ∃ r : Int, e = .returned (.int .i64 r) ∧ decide (0 ≤ r) = xs.any (fun n => n != cutI n) ∧ w' = w := by
  obtain ⟨n, a, c, f, rfl, hn, hnc, hcm, hf, hv⟩ := hx.view
  clear hx
  have hcall := call_may1
  have HV := Lib.hid hv
  have HN := Lib.hid hn
  have HF := Lib.hid hf
  clear hv hn hf
  go_enter Try.func80, Try.ntmps80
  go_wp2_with fail
  go_loop [8] (fun i => ∃ k : Nat, k ≤ n ∧ i = .int .i64 k ∧ ∀ j, j < k → f j = cutI (f j)) (fun i => n - (intOf i).toNat)
  case atStart => exact ⟨0, Nat.zero_le _, rfl, by intro j hj; omega⟩
  case round =>
    obtain ⟨k, hk, rfl, hfg⟩ := hrel
    have HE := Lib.hid hfg
    clear hfg
    by_cases hlt : k < n
    · obtain ⟨b, o, rfl, hb, hc⟩ := HV.out (by omega)
      have h1 := hc k hlt
      clear hc
      obtain ⟨fk, hfk⟩ : ∃ fk, fk = f k := ⟨_, rfl⟩
      rw [← hfk] at h1
      have HFK := Lib.hid hfk
      clear hfk
      by_cases he : fk = cutI fk
      · have hc := o_may1 fk w
        rw [show (fk != cutI fk) = false by simpa using he] at hc
        have HC := Lib.hid hc
        have HEQ := Lib.hid he
        clear hc he
        go_wp2_with fail
        refine HC.out.mono ?_
        rintro e w' ⟨rfl, rfl⟩
        go_wp2_with fail
        go_round
        case rel => exact ⟨k + 1, by omega, by go_num, fun j hj => by
            rcases Nat.lt_or_ge j k with h | h
            · exact HE.out j h
            · obtain rfl : j = k := by omega
              rw [← HFK.out]; exact HEQ.out⟩
        case measure => simp [intOf]; omega
      · have hc := o_may1 fk w
        rw [show (fk != cutI fk) = true by simpa using he] at hc
        have HC := Lib.hid hc
        have fin : decide ((0 : Int) ≤ k) = xs.any (fun n => n != cutI n) := by
          have : xs.any (fun n => n != cutI n) = true := by
            rw [List.any_eq_true]
            have hkl : k < xs.length := by rw [← HN.out]; exact hlt
            refine ⟨xs.getD k 0, by simp [List.getD_eq_getElem?_getD, List.getElem?_eq_getElem hkl], ?_⟩
            rw [← HF.out, ← HFK.out]
            simpa using he
          rw [this]
          simp
        have HT := Lib.hid fin
        clear hc he fin
        go_wp2_with fail
        refine HC.out.mono ?_
        rintro e w' ⟨rfl, rfl⟩
        go_wp2_with fail
        go_ret
        exact ⟨k, rfl, HT.out, rfl⟩
    · obtain rfl : k = n := by omega
      have fin : decide ((0 : Int) ≤ -1) = xs.any (fun n => n != cutI n) := by
        have : xs.any (fun n => n != cutI n) = false := by
          rw [List.any_eq_false]
          intro x hx
          obtain ⟨i, hi, rfl⟩ := List.getElem_of_mem hx
          have := HE.out i (by rw [HN.out]; exact hi)
          rw [HF.out] at this
          simp only [List.getD_eq_getElem?_getD, List.getElem?_eq_getElem hi, Option.getD_some] at this
          simpa using this
        rw [this]
        decide
      have HT := Lib.hid fin
      clear fin
      go_wp2_with fail
      go_ret
      exact ⟨-1, rfl, HT.out, rfl⟩
theorem sl_contains {w : World} {v : Value} {xs : List Int} (hx : Rd w v xs) :
    Calls Try.prog 58 #[v, .func (Fn.func 59) #[] #[]] w fun e w' => e = .returned (.bool (xs.any (fun n => n != cutI n))) ∧ w' = w := by
  have HC := Lib.hid (sl_index hx)
  clear hx
  go_enter Try.func58, Try.ntmps58
  go_wp2_with fail
  refine HC.out.mono ?_
  rintro e w' ⟨r, rfl, hr, rfl⟩
  have HR := Lib.hid hr
  clear hr
  go_wp2_with fail
  go_ret
  exact ⟨by rw [← HR.out]; rfl, rfl⟩
end Go.Proofs.Ytjfenjnnpikkdaa
/- Package slices at []int: Delete, Insert, on a row of the program's own. -/
namespace Go.Proofs.Ytjfenjnnpikkdaa
set_option maxRecDepth 100000
open Go.RowKit

theorem zeroInt (w : World) : (zeroValue 3).run Try.prog w = .ok (.int .i64 0) w := by kernel_rfl

/-- What Delete leaves. -/
def DelP (w : World) (g n cap i j : Nat) (xs : List Int) (e : Ending) (w' : World) : Prop :=
  e = .returned (.slice (some ⟨g, 0, none⟩) (i + (n - j)) cap) ∧ Own w' 3 1 (.slice (some ⟨g, 0, none⟩) (i + (n - j)) cap) (i + (n - j)) (ints (xs.take i ++ xs.drop j)) ∧ Keeps (fun k => k = g) w w'

theorem row_news {w : World} {e : TypeId} {g : Nat} {cur : List Value} (h : RowAt w e g cur) (o : Nat) (news : List Value) (hn : ∀ t, t < news.length → cur[o + t]? = news[t]?) : ∀ t u, news[t]? = some u → w.cell? ((⟨g, o, none⟩ : Addr).add t) = some u := by
  intro t u hu
  have ht := (List.getElem?_eq_some_iff.1 hu).1
  rw [show (⟨g, o, none⟩ : Addr).add t = ⟨g, o + t, none⟩ by unfold Addr.add; split <;> simp_all, h.cell (o + t), hn t ht]
  exact hu

set_option maxHeartbeats 1600000 in
theorem sl_delete {w : World} {g n cap : Nat} {xs : List Int} (h : Own w 3 1 (.slice (some ⟨g, 0, none⟩) n cap) n (ints xs)) (i j : Nat) (hij : i < j) (hj : j ≤ n) :
    Calls Try.prog 83 #[.slice (some ⟨g, 0, none⟩) n cap, .int .i64 i, .int .i64 j] w (DelP w g n cap i j xs) := by
  obtain ⟨i0, hi, hz0, hz1, hz2⟩ := info_parts infoInt
  obtain ⟨_, hnc, hcm, hxl, rest, hrow, hrl⟩ := own_row h
  have hxl' : xs.length = n := by simpa [ints] using hxl
  simp only [maxLen] at hcm
  have hcm' : cap ≤ 9223372036854775807 := by omega
  -- the source of the append
  obtain ⟨A, hA, hsrc⟩ : ∃ A : Addr, (if cap = j then some (⟨g, 0, none⟩ : Addr) else some ⟨g, j, none⟩) = some A ∧ Hid (∀ t u, (ints (xs.drop j))[t]? = some u → w.drew.cell? (A.add t) = some u) := by
    by_cases hcj : cap = j
    · refine ⟨⟨g, 0, none⟩, by simp [hcj], fun t u hu => ?_⟩
      have h0 : xs.drop j = [] := List.drop_eq_nil_of_le (by omega)
      rw [h0] at hu
      simp [ints] at hu
    · refine ⟨⟨g, j, none⟩, by simp [hcj], fun t u hu => ?_⟩
      have ht : t < n - j := by
        have := (List.getElem?_eq_some_iff.1 hu).1
        simp [ints] at this
        omega
      rw [show (⟨g, j, none⟩ : Addr).add t = ⟨g, j + t, none⟩ by unfold Addr.add; split <;> simp_all]
      have := hrow.drew.cell (j + t)
      rw [this, List.getElem?_append_left (by simp [ints]; omega)]
      rw [← hu]
      simp [ints]
  obtain ⟨L1, hL1⟩ : ∃ L1 : List Value, L1 = (ints xs ++ rest).take i ++ ints (xs.drop j) ++ (ints xs ++ rest).drop (i + (n - j)) := ⟨_, rfl⟩
  obtain ⟨L2, hL2⟩ : ∃ L2 : List Value, L2 = L1.take (i + (n - j)) ++ List.replicate (n - (i + (n - j))) (Value.int .i64 0) ++ L1.drop (i + (n - j) + (n - (i + (n - j)))) := ⟨_, rfl⟩
  obtain ⟨W1, hW1⟩ : ∃ W1, W1 = w.drew.setRow g L1.toArray := ⟨_, rfl⟩
  have hap : ∀ ty, (Builtin.append_ #[22, 22] ty #[.slice (some ⟨g, 0, none⟩) i cap, .slice (some A) (n - j) (cap - j)]).run Try.prog w.drew = .ok (.slice (some ⟨g, 0, none⟩) (i + (n - j)) cap) W1 := by
    intro ty
    rw [hW1, hL1]
    exact run_append_row w.drew _ ty _ i0 Try.underlying22 hi hz1 g i cap _ hrow.drew _ (n - j) (ints (xs.drop j)) (by simp [ints]; omega) ⟨_, _, rfl, fun _ => ⟨A, rfl, hsrc.out⟩⟩ (ints_one _) (by omega) (by omega)
  have hr1 : RowAt W1 3 g L1 := by rw [hW1]; exact hrow.drew.set _
  have hl1 : L1.length = cap := by
    rw [hL1]
    simp only [List.length_append, List.length_take, List.length_drop, ints_length] at hrl ⊢
    omega
  have hk1 : Keeps (fun k => k = g) w W1 := by
    rw [hW1]
    exact ((Keeps.refl _ w).drew).trans' (keeps_setRow _ g _)
  have hpre : ∀ tl, ((ints xs ++ rest).take i ++ ints (xs.drop j) ++ tl).take (i + (n - j)) = ints (xs.take i ++ xs.drop j) := by
    intro tl
    have e1 : (ints xs ++ rest).take i = ints (xs.take i) := by
      rw [List.take_append_of_le_length (by rw [ints_length]; omega)]
      simp [ints, List.map_take]
    rw [e1, ← ints_append]
    refine List.take_left' ?_
    simp [ints]
    omega
  have hcl0 : L2.length = cap := by
    rw [hL2]
    simp only [List.length_append, List.length_take, List.length_drop, List.length_replicate, hl1]
    omega
  have hcl : ∀ ty, (Builtin.clear_ #[22] ty #[.slice (some ⟨g, i + (n - j), none⟩) (n - (i + (n - j))) (cap - (i + (n - j)))]).run Try.prog W1 = .ok (.tuple #[]) (W1.setRow g L2.toArray) := fun ty => by
    rw [hL2]
    exact run_clear_row W1 _ ty _ _ Try.underlying22 zeroInt rfl rfl g (i + (n - j)) (n - (i + (n - j))) _ (by omega) _ hr1 (by omega)
  have fin : DelP w g n cap i j xs (.returned (.slice (some ⟨g, 0, none⟩) (i + (n - j)) cap)) (W1.setRow g L2.toArray) := by
    refine ⟨rfl, ?_, hk1.trans' (keeps_setRow _ g _)⟩
    have ho := (hr1.set L2).own (n := i + (n - j)) (cap := cap) (by omega) (by simp only [maxLen]; omega) hcl0
    have he : L2.take (i + (n - j)) = ints (xs.take i ++ xs.drop j) := by
      rw [hL2, List.append_assoc, List.take_left' (by rw [List.length_take, hl1]; omega), hL1, hpre]
    rw [he] at ho
    exact ho
  have HAP := Lib.hid hap
  have HCL := Lib.hid hcl
  have HFIN := Lib.hid fin
  have hic : i ≤ cap := by omega
  have hjc : j ≤ cap := by omega
  have hne : ((i : Int) == j) = false := by simp; omega
  clear hap hcl fin hr1 hl1 hk1 hpre hW1 hrow hrl h hxl hxl' hL1 hL2 hcl0 hsrc
  go_enter Try.func83, Try.ntmps83
  go_wp2_with fail
  go_still_tail 6, (by kernel_rfl)
  change wpList _ _ _ _ _ w.drew
  go_wp2_with (refine wpList_append2 _ rfl _ _ 22 22 rfl _ _ rfl rfl HAP.out ?_; have hcl := HCL.out)
  go_ret
  exact HFIN.out

/-- s[lo:] of a slice of ints. -/
theorem run_low (w : World) (g o len cap lo : Nat) (x : Int) (hx : x = lo) (h : lo ≤ len) (hne : ¬ cap = lo) (hm : len ≤ 9223372036854775807) :
    (Instr.slice 22 (.slice (some ⟨g, o, none⟩) len cap) (some (.int .i64 x)) none none).run Try.prog w = .ok (.slice (some ⟨g, o + lo, none⟩) (len - lo) (cap - lo)) w := by
  subst hx
  go_simp

/-- What Insert of two numbers leaves. -/
def InsP (w : World) (v : Value) (n i : Nat) (xs : List Int) (k m : Int) (e : Ending) (w' : World) : Prop :=
  ∃ v', e = .returned v' ∧ Own w' 3 1 v' (n + 2) (ints (xs.take i ++ [k, m] ++ xs.drop i)) ∧ (v'.ownBlock = v.ownBlock ∨ ∃ b, v'.ownBlock = some b ∧ w.heap.size ≤ b) ∧ Keeps (fun b => v.ownBlock = some b) w w'

set_option maxHeartbeats 1600000 in
theorem sl_insert_end {w : World} {v : Value} {n : Nat} {xs : List Int} (h : Own w 3 1 v n (ints xs)) (gv : Nat) (k m : Int) (hv : Blk w gv #[.int .i64 k, .int .i64 m] 3) (hn : n ≤ 1099511627776) :
    Calls Try.prog 91 #[v, .int .i64 n, .slice (some ⟨gv, 0, none⟩) 2 2] w (InsP w v n n xs k m) := by
  obtain ⟨i0, hi, hz0, hz1, hz2⟩ := info_parts infoInt
  have hxl : xs.length = n := by have := h.1; simpa [ints] using this
  have fin : ∀ v' w1, Own w1 3 1 v' (n + 2) (ints xs ++ [.int .i64 k, .int .i64 m]) → w.grownBy w1 v.ownBlock → (v'.ownBlock = v.ownBlock ∨ v'.ownBlock = some w.heap.size) → InsP w v n n xs k m (.returned v') w1 := by
    intro v' w1 hown hg hat
    refine ⟨v', rfl, ?_, ?_, (Keeps.refl _ w).grown hg (fun b hb => .inl hb)⟩
    · rw [List.take_of_length_le (by omega), List.drop_eq_nil_of_le (by omega), List.append_nil, ints_append]
      exact hown
    · rcases hat with e | e
      · exact .inl e
      · exact .inr ⟨_, e, Nat.le_refl _⟩
  obtain ⟨a, c, rfl⟩ : ∃ a c, v = .slice a n c := by
    rcases h.2 with ⟨rfl, rfl⟩ | ⟨g, cap, cur, rfl, _⟩
    · exact ⟨none, 0, rfl⟩
    · exact ⟨_, cap, rfl⟩
  have hcm : n ≤ c ∧ c ≤ 9223372036854775807 := by
    rcases h.2 with ⟨e, e0⟩ | ⟨g, cap, cur, e, _, _, h1, h2, _⟩
    · simp at e; omega
    · simp only [maxLen] at h2
      simp at e
      omega
  obtain ⟨hc1, hc2⟩ := hcm
  obtain ⟨A1, hq⟩ : ∃ A1, ∀ (w : World), (Instr.slice 22 (.slice a n c) (some (.int .i64 n)) none none).run Try.prog w = .ok (.slice A1 (n - n) (c - n)) w := by
    refine ⟨if c = n then a else a.map (·.add n), ?_⟩
    intro w
    go_simp
    all_goals omega
  have HF := Lib.hid fin
  have HO := Lib.hid h
  have HV := Lib.hid hv.news
  have hnn : ((n : Int) == n) = true := by simp
  clear fin h hv hxl
  go_enter Try.func91, Try.ntmps91
  go_wp2_with (at_builtin; refine wpList_append_own_at _ rfl _ _ 22 rfl 0 3 i0 (.int .i64 0) 1 8 Try.underlying22 hi hz0 hz1 hz2 rfl (by decide) (.slice a n c) _ _ rfl HO.out ⟨gv, 0, none⟩ 2 2 [.int .i64 k, .int .i64 m] rfl (by simp) HV.out (by simp [Value.oneCell']) (by simp only [maxLen]; omega) (by omega) (Nat.zero_le _) ?_; intro v' w1 hown hgrow hnil hat)
  go_ret
  exact HF.out _ _ hown hgrow hat

set_option maxHeartbeats 1600000 in
theorem sl_insert_grow {w : World} {g n cap i : Nat} {xs : List Int} (h : Own w 3 1 (.slice (some ⟨g, 0, none⟩) n cap) n (ints xs)) (gv : Nat) (k m : Int) (hv : Blk w gv #[.int .i64 k, .int .i64 m] 3) (hn : n ≤ 1099511627776) (hin : i < n) (hgr : cap < n + 2) :
    Calls Try.prog 91 #[.slice (some ⟨g, 0, none⟩) n cap, .int .i64 i, .slice (some ⟨gv, 0, none⟩) 2 2] w (InsP w (.slice (some ⟨g, 0, none⟩) n cap) n i xs k m) := by
  obtain ⟨i0, hi, hz0, hz1, hz2⟩ := info_parts infoInt
  obtain ⟨_, hnc, hcm, hxl, rest, hrow, hrl⟩ := own_row h
  have hxl' : xs.length = n := by simpa [ints] using hxl
  have hcm' : cap ≤ 9223372036854775807 := by simp only [maxLen] at hcm; omega
  obtain ⟨C, hC⟩ : ∃ C, C = grownCap w (n + 2) cap 3 := ⟨_, rfl⟩
  have hCge : n + 2 ≤ C := by rw [hC]; exact grownCap_ge _ _ _ _
  have hCle : C ≤ maxLen := by rw [hC]; exact grownCap_le_maxLen w (n + 2) cap 3 (by simp only [maxLen]; omega)
  have hCle' : C ≤ 9223372036854775807 := by simp only [maxLen] at hCle; omega
  obtain ⟨L0, hL0⟩ : ∃ L0 : List Value, L0 = ints (xs.take i) ++ List.replicate (n + 2 - i) (Value.int .i64 0) ++ List.replicate (C - (n + 2)) (Value.int .i64 0) := ⟨_, rfl⟩
  have hl0 : L0.length = C := by rw [hL0]; simp [ints]; omega
  obtain ⟨W1, hW1⟩ : ∃ W1, W1 = w.drew.alloc (.cells L0.toArray 3) := ⟨_, rfl⟩
  have hzc : ∀ q, Builtin.zeroCells (Value.int .i64 0).cells q = Array.replicate q (Value.int .i64 0) := by
    intro q
    apply Array.ext
    · simp [Builtin.zeroCells, Value.cells]
    · intro a b c
      simp [Builtin.zeroCells, Value.cells, Nat.mod_one]
  have hap : ∀ ty, (Builtin.append_ #[22, 3] ty #[.slice (some ⟨g, 0, none⟩) i cap, .int .i64 ((n : Int) + 2 - i)]).run Try.prog w = .ok (.slice (some ⟨w.heap.size, 0, none⟩) (n + 2) C) W1 := by
    intro ty
    have hf : (Builtin.firstCells i0.size i (.slice (some ⟨g, 0, none⟩) i cap)).run Try.prog w.drew = .ok (ints (xs.take i)).toArray w.drew := by
      rw [hz1]
      refine run_firstCells_some w.drew 1 i _ i cap (ints (xs.take i)) (by simp [ints]; omega) (row_news hrow.drew 0 _ ?_)
      intro t ht
      simp only [ints_length, List.length_take] at ht
      rw [List.getElem?_append_left (by rw [ints_length]; omega)]
      simp only [ints, List.getElem?_map, List.getElem?_take, Nat.zero_add]
      rw [if_pos (by omega)]
    have hr := Lib.run_append_grow_zeros (P := Try.prog) w 22 3 ty 3 i0 (.int .i64 0) .i64 .i64 Try.underlying22 Try.underlying3 hi hz0 (some ⟨g, 0, none⟩) i cap (ints (xs.take i)) hf (n + 2 - i) (by omega) (by omega) (by omega) (by omega) (by rw [hz2]; omega) (growslice_fits (by omega) (by rw [hz2]; omega))
    rw [show (n : Int) + 2 - i = ((n + 2 - i : Nat) : Int) by omega, hr, hW1, hL0]
    have e : i + (n + 2 - i) = n + 2 := by omega
    have e3 : ∀ (l : List Value) (z : Value) (q r : Nat), l.toArray ++ Array.replicate q z ++ Array.replicate r z = (l ++ List.replicate q z ++ List.replicate r z).toArray := by
      intro l z q r
      apply Array.ext'
      simp
    simp only [e, hzc, ← hC, e3]
  have hr1 : RowAt W1 3 w.heap.size L0 := by rw [hW1]; exact heap_alloc_new w.drew _
  have hv1 : Blk W1 gv #[.int .i64 k, .int .i64 m] 3 := by rw [hW1]; exact hv.drew.alloc _
  have hrow1 : RowAt W1 3 g (ints xs ++ rest) := by rw [hW1]; exact (Below.heap_alloc _ _ _ hrow.lt).trans hrow
  have hk1 : Keeps (fun b => (Value.slice (some ⟨g, 0, none⟩) n cap).ownBlock = some b) w W1 := by rw [hW1]; exact (Keeps.refl _ w).drew.alloc _
  obtain ⟨L1, hL1⟩ : ∃ L1 : List Value, L1 = L0.take i ++ [.int .i64 k, .int .i64 m] ++ L0.drop (i + 2) := ⟨_, rfl⟩
  have hl1 : L1.length = C := by rw [hL1]; simp; omega
  obtain ⟨W2, hW2⟩ : ∃ W2, W2 = W1.setRow w.heap.size L1.toArray := ⟨_, rfl⟩
  have hc1 : ∀ ty, (Builtin.copy_ #[22, 22] ty #[.slice (some ⟨w.heap.size, i, none⟩) (n + 2 - i) (C - i), .slice (some ⟨gv, 0, none⟩) 2 2]).run Try.prog W1 = .ok (.int .i64 2) W2 := by
    intro ty
    rw [hW2, hL1]
    exact run_copy_row W1 _ ty _ i0 Try.underlying22 hi hz1 w.heap.size i (n + 2 - i) (C - i) L0 hr1 _ 2 2 [.int .i64 k, .int .i64 m] rfl ⟨_, _, rfl, fun _ => ⟨_, rfl, hv1.news⟩⟩ (by simp [Value.oneCell']) (Nat.min_eq_left (by omega)) (by omega)
  have hr2 : RowAt W2 3 w.heap.size L1 := by rw [hW2]; exact hr1.set _
  have hk2 : Keeps (fun b => b = w.heap.size) W1 W2 := by rw [hW2]; exact keeps_setRow _ _ _
  have hrow2 : RowAt W2 3 g (ints xs ++ rest) := hk2.heapSome (by have := hrow.lt; omega) hrow1
  obtain ⟨L2, hL2⟩ : ∃ L2 : List Value, L2 = L1.take (i + 2) ++ ints (xs.drop i) ++ L1.drop (i + 2 + (n - i)) := ⟨_, rfl⟩
  have hl2 : L2.length = C := by rw [hL2]; simp [ints]; omega
  obtain ⟨W3, hW3⟩ : ∃ W3, W3 = W2.drew.setRow w.heap.size L2.toArray := ⟨_, rfl⟩
  have hc2 : ∀ ty, (Builtin.copy_ #[22, 22] ty #[.slice (some ⟨w.heap.size, i + 2, none⟩) (n - i) (C - (i + 2)), .slice (some ⟨g, i, none⟩) (n - i) (cap - i)]).run Try.prog W2.drew = .ok (.int .i64 ((n - i : Nat) : Int)) W3 := by
    intro ty
    rw [hW3, hL2]
    refine run_copy_row W2.drew _ ty _ i0 Try.underlying22 hi hz1 w.heap.size (i + 2) (n - i) (C - (i + 2)) L1 hr2.drew _ (n - i) (n - i) (ints (xs.drop i)) (by simp [ints]; omega) ⟨_, _, rfl, fun _ => ⟨_, rfl, row_news hrow2.drew i _ ?_⟩⟩ (ints_one _) (Nat.min_eq_left (by omega)) (by omega)
    intro t ht
    simp only [ints_length, List.length_drop] at ht
    rw [List.getElem?_append_left (by rw [ints_length]; omega)]
    simp [ints]
  have fin : InsP w (.slice (some ⟨g, 0, none⟩) n cap) n i xs k m (.returned (.slice (some ⟨w.heap.size, 0, none⟩) (n + 2) C)) W3 := by
    have hr3 : RowAt W3 3 w.heap.size L2 := by rw [hW3]; exact hr2.drew.set _
    have ho := hr3.own (n := n + 2) (cap := C) hCge hCle hl2
    have he : L2.take (n + 2) = ints (xs.take i ++ [k, m] ++ xs.drop i) := by
      have e1 : L1.take (i + 2) = ints (xs.take i ++ [k, m]) := by
        rw [hL1, List.take_left' (by simp; omega), hL0, List.append_assoc, List.take_left' (by simp [ints]; omega), ints_append]
        rfl
      rw [hL2, e1, ← ints_append, List.take_left' (by simp [ints]; omega)]
    rw [he] at ho
    refine ⟨_, rfl, ho, .inr ⟨_, rfl, Nat.le_refl _⟩, ?_⟩
    have hk3 : Keeps (fun b => b = w.heap.size) W2 W3 := by rw [hW3]; exact (Keeps.refl _ W2).drew.trans' (keeps_setRow _ _ _)
    exact (hk1.trans hk2 (by rintro b rfl; exact .inr (Nat.le_refl _))).trans hk3 (by rintro b rfl; exact .inr (Nat.le_refl _))
  have HAP := Lib.hid hap
  have HC1 := Lib.hid hc1
  have HC2 := Lib.hid hc2
  have HFIN := Lib.hid fin
  have e1 : ((i : Int) == n) = false := by simp; omega
  have e2 : (n : Int) + 2 > cap := by omega
  have hic : i ≤ cap := by omega
  clear hap hc1 hc2 fin hr1 hl1 hk1 hrow hrl h hxl hxl' hL1 hL2 hL0 hl0 hl2 hr2 hk2 hrow1 hrow2 hv1 hv hzc hW1 hW2 hW3 hC hcm hCle
  go_enter Try.func91, Try.ntmps91
  go_wp2_with (first | (at_builtin; refine wpList_append2 _ rfl _ _ 22 3 rfl (.slice (some ⟨g, 0, none⟩) i cap) (.int .i64 ((n : Int) + 2 - i)) rfl rfl HAP.out ?_) | (refine wpList_copy2 _ rfl _ _ 22 22 rfl (.slice (some ⟨w.heap.size, i, none⟩) (n + 2 - i) (C - i)) (.slice (some ⟨gv, 0, none⟩) 2 2) rfl rfl HC1.out ?_))
  have hwr : IntKind.i64.wrap ((i : Int) + 2) = (i : Int) + 2 := by rw [IntKind.wrap_i64]; omega
  have hp0 : (0 : Int) ≤ (i : Int) + 2 := by omega
  have hp1 : (i : Int) + 2 ≤ ((n + 2 : Nat) : Int) := by omega
  have hp2 : ((i : Int) + 2).toNat = i + 2 := by omega
  have hs1 := fun W => run_low W w.heap.size 0 (n + 2) C (i + 2) ((i : Int) + 2) (by omega) (by omega) (by omega) (by omega)
  have hs2 := fun W => run_low W g 0 n cap i (i : Int) rfl (by omega) (by omega) (by omega)
  simp only [Nat.zero_add] at hs1 hs2
  go_still_tail 8, (by kernel_rfl)
  change wpList _ _ _ _ _ W2.drew
  refine wpList_copy2 _ rfl _ _ 22 22 rfl (.slice (some ⟨w.heap.size, i + 2, none⟩) (n - i) (C - (i + 2))) (.slice (some ⟨g, i, none⟩) (n - i) (cap - i)) rfl rfl HC2.out ?_
  go_wp2_with fail
  go_ret
  exact HFIN.out

theorem overlaps_no (W : World) (gv g n c lb cb i : Nat) (cur : List Value) (k m : Value) (hv : Blk W gv #[k, m] 3) (hr : RowAt W 3 g cur) (hl : 0 < cur.length) (hne : gv ≠ g) :
    (callFunc 96 #[.slice (some ⟨gv, 0, none⟩) 2 2, .slice (some ⟨g, i, none⟩) lb cb]).run Try.prog W = .ok (.value (.bool false)) W := by
  obtain ⟨i0, hi, hz0, hz1, hz2⟩ := info_parts infoInt
  have hz : ∀ w, (Go.sizeOf 3).run Try.prog w = .ok 1 w := by
    intro w
    simp [sizeOf, typeInfo, hi, hz1]
  have hsa : W.shape? gv = some (3, 2) := by unfold Blk at hv; simp [World.shape?, hv]
  have hsb : W.shape? g = some (3, cur.length) := by unfold RowAt at hr; simp [World.shape?, hr]
  rw [run_callFunc_extern Try.func96 (by kernel_rfl) (by kernel_rfl) (by kernel_rfl) (e := Extern.SlicesOverlaps.overlaps #[22, 22] #[4]) (by kernel_rfl),
    Lib.run_overlaps_apart W 22 4 3 Try.underlying22 1 hz ⟨gv, 0, none⟩ ⟨g, i, none⟩ 2 2 lb cb hne 3 3 2 cur.length hsa hsb (by omega) (hv.frozen 0) (hv.frozen 2)]
  rfl

set_option maxHeartbeats 1600000 in
theorem sl_insert_room {w : World} {g n cap i : Nat} {xs : List Int} (h : Own w 3 1 (.slice (some ⟨g, 0, none⟩) n cap) n (ints xs)) (gv : Nat) (k m : Int) (hv : Blk w gv #[.int .i64 k, .int .i64 m] 3) (hne : gv ≠ g) (hn : n ≤ 1099511627776) (hin : i < n) (hgr : n + 2 ≤ cap) :
    Calls Try.prog 91 #[.slice (some ⟨g, 0, none⟩) n cap, .int .i64 i, .slice (some ⟨gv, 0, none⟩) 2 2] w (InsP w (.slice (some ⟨g, 0, none⟩) n cap) n i xs k m) := by
  obtain ⟨i0, hi, hz0, hz1, hz2⟩ := info_parts infoInt
  obtain ⟨_, hnc, hcm, hxl, rest, hrow, hrl⟩ := own_row h
  have hxl' : xs.length = n := by simpa [ints] using hxl
  have hcm' : cap ≤ 9223372036854775807 := by simp only [maxLen] at hcm; omega
  obtain ⟨L1, hL1⟩ : ∃ L1 : List Value, L1 = (ints xs ++ rest).take (i + 2) ++ ints (xs.drop i) ++ (ints xs ++ rest).drop (i + 2 + (n - i)) := ⟨_, rfl⟩
  have hl1 : L1.length = cap := by
    rw [hL1]
    simp only [List.length_append, List.length_take, List.length_drop, ints_length] at hrl ⊢
    omega
  obtain ⟨W1, hW1⟩ : ∃ W1, W1 = w.drew.setRow g L1.toArray := ⟨_, rfl⟩
  have hc1 : ∀ ty, (Builtin.copy_ #[22, 22] ty #[.slice (some ⟨g, i + 2, none⟩) (n - i) (cap - (i + 2)), .slice (some ⟨g, i, none⟩) (n + 2 - i) (cap - i)]).run Try.prog w.drew = .ok (.int .i64 ((n - i : Nat) : Int)) W1 := by
    intro ty
    rw [hW1, hL1]
    refine run_copy_row w.drew _ ty _ i0 Try.underlying22 hi hz1 g (i + 2) (n - i) (cap - (i + 2)) _ hrow.drew _ (n + 2 - i) (n - i) (ints (xs.drop i)) (by simp [ints]; omega) ⟨_, _, rfl, fun _ => ⟨_, rfl, row_news hrow.drew i _ ?_⟩⟩ (ints_one _) (by show min (n + 2 - i) (n - i) = n - i; omega) (by omega)
    intro t ht
    simp only [ints_length, List.length_drop] at ht
    rw [List.getElem?_append_left (by rw [ints_length]; omega)]
    simp [ints]
  have hr1 : RowAt W1 3 g L1 := by rw [hW1]; exact hrow.drew.set _
  have hk1 : Keeps (fun b => b = g) w W1 := by rw [hW1]; exact (Keeps.refl _ w).drew.trans' (keeps_setRow _ _ _)
  have hv1 : Blk W1 gv #[.int .i64 k, .int .i64 m] 3 := hv.keeps hk1 hne
  obtain ⟨L2, hL2⟩ : ∃ L2 : List Value, L2 = L1.take i ++ [.int .i64 k, .int .i64 m] ++ L1.drop (i + 2) := ⟨_, rfl⟩
  have hl2 : L2.length = cap := by rw [hL2]; simp; omega
  obtain ⟨W2, hW2⟩ : ∃ W2, W2 = W1.setRow g L2.toArray := ⟨_, rfl⟩
  have hc2 : ∀ ty, (Builtin.copy_ #[22, 22] ty #[.slice (some ⟨g, i, none⟩) (n + 2 - i) (cap - i), .slice (some ⟨gv, 0, none⟩) 2 2]).run Try.prog W1 = .ok (.int .i64 2) W2 := by
    intro ty
    rw [hW2, hL2]
    exact run_copy_row W1 _ ty _ i0 Try.underlying22 hi hz1 g i (n + 2 - i) (cap - i) L1 hr1 _ 2 2 [.int .i64 k, .int .i64 m] rfl ⟨_, _, rfl, fun _ => ⟨_, rfl, hv1.news⟩⟩ (by simp [Value.oneCell']) (Nat.min_eq_left (by omega)) (by omega)
  have fin : InsP w (.slice (some ⟨g, 0, none⟩) n cap) n i xs k m (.returned (.slice (some ⟨g, 0, none⟩) (n + 2) cap)) W2 := by
    have hr2 : RowAt W2 3 g L2 := by rw [hW2]; exact hr1.set _
    have ho := hr2.own (n := n + 2) (cap := cap) hgr hcm hl2
    have he : L2.take (n + 2) = ints (xs.take i ++ [k, m] ++ xs.drop i) := by
      have e0 : (ints xs ++ rest).take (i + 2) = (ints xs ++ rest).take i ++ ((ints xs ++ rest).drop i).take 2 := List.take_add ..
      have e1 : L1.take i = ints (xs.take i) := by
        rw [hL1, e0, List.append_assoc, List.append_assoc, List.take_left' (by simp only [List.length_take]; omega), List.take_append_of_le_length (by rw [ints_length]; omega)]
        simp [ints, List.map_take]
      have e2 : L1.drop (i + 2) = ints (xs.drop i) ++ (ints xs ++ rest).drop (i + 2 + (n - i)) := by
        rw [hL1, List.append_assoc, List.drop_left' (by simp only [List.length_take]; omega)]
      have e3 : ints (xs.take i) ++ [.int .i64 k, .int .i64 m] ++ (ints (xs.drop i) ++ (ints xs ++ rest).drop (i + 2 + (n - i))) = ints (xs.take i ++ [k, m] ++ xs.drop i) ++ (ints xs ++ rest).drop (i + 2 + (n - i)) := by
        simp [ints]
      rw [hL2, e1, e2, e3, List.take_left' (by simp [ints]; omega)]
    rw [he] at ho
    refine ⟨_, rfl, ho, .inl rfl, ?_⟩
    have hk2 : Keeps (fun b => b = g) W1 W2 := by rw [hW2]; exact keeps_setRow _ _ _
    exact (hk1.trans' hk2).mono (by rintro b rfl; rfl)
  have hov := fun lb cb => overlaps_no w gv g n cap lb cb (i + 2) _ (.int .i64 k) (.int .i64 m) hv hrow (by omega) hne
  have HOV := Lib.hid hov
  have HC1 := Lib.hid hc1
  have HC2 := Lib.hid hc2
  have HFIN := Lib.hid fin
  have e1 : ((i : Int) == n) = false := by simp; omega
  have e2 : ¬ (n : Int) + 2 > cap := by omega
  have hic : i ≤ cap := by omega
  clear hc1 hc2 fin hr1 hl1 hk1 hrow hrl h hxl hxl' hL1 hL2 hl2 hv1 hv hW1 hW2 hcm hov
  go_enter Try.func91, Try.ntmps91
  have hov := HOV.out
  go_wp2_with fail
  have hwr : IntKind.i64.wrap ((i : Int) + 2) = (i : Int) + 2 := by rw [IntKind.wrap_i64]; omega
  have hp0 : (0 : Int) ≤ (i : Int) + 2 := by omega
  have hs1 := fun W => run_low W g 0 (n + 2) cap (i + 2) ((i : Int) + 2) (by omega) (by omega) (by omega) (by omega)
  have hs2 := fun W => run_low W g 0 (n + 2) cap i (i : Int) rfl (by omega) (by omega) (by omega)
  simp only [Nat.zero_add] at hs1 hs2
  go_still_tail 8, (by kernel_rfl)
  change wpList _ _ _ _ _ w.drew
  refine wpList_copy2 _ rfl _ _ 22 22 rfl (.slice (some ⟨g, i + 2, none⟩) (n - i) (cap - (i + 2))) (.slice (some ⟨g, i, none⟩) (n + 2 - i) (cap - i)) rfl rfl HC1.out ?_
  go_wp2_with (refine wpList_copy2 _ rfl _ _ 22 22 rfl (.slice (some ⟨g, i, none⟩) (n + 2 - i) (cap - i)) (.slice (some ⟨gv, 0, none⟩) 2 2) rfl rfl HC2.out ?_)
  go_ret
  exact HFIN.out

/-- Insert of two numbers, whatever the room. -/
theorem sl_insert {w : World} {v : Value} {n i : Nat} {xs : List Int} (h : Own w 3 1 v n (ints xs)) (gv : Nat) (k m : Int) (hv : Blk w gv #[.int .i64 k, .int .i64 m] 3) (hne : v.ownBlock ≠ some gv) (hn : n ≤ 1099511627776) (hin : i ≤ n) :
    Calls Try.prog 91 #[v, .int .i64 i, .slice (some ⟨gv, 0, none⟩) 2 2] w (InsP w v n i xs k m) := by
  by_cases h0 : i = n
  · subst h0
    exact sl_insert_end h gv k m hv hn
  · obtain ⟨g, c, rfl, hc1, hc2⟩ := own_open h (by omega)
    by_cases hr : n + 2 ≤ c
    · exact sl_insert_room h gv k m hv (fun e => hne (by simp [Value.ownBlock, e])) hn (by omega) hr
    · exact sl_insert_grow h gv k m hv hn (by omega) (by omega)
end Go.Proofs.Ytjfenjnnpikkdaa
