/-
  The base of the walks: what a call leaves as it was outside a set of blocks ('Keeps'), blocks known whole, rows of the program's own, append of zeros.
-/
import Derived.WalkKit
import Derived.Below
import Derived.Maps.AppendAt
import Derived.Laws.OwnMore
import Derived.Lib.AppendZerosOnto
import Derived.Lib.Hide
import Derived.Deep.QuietTactic
import Derived.BigQuiet
import Derived.Lib.SliceRun
import Derived.Lib.Overlaps
import Derived.Test.YtaoagaokocnehaaProg
import Derived.StillTailTactics
import Derived.WalkSpells
import Derived.Deep.RegionLaw
import Derived.Deep.AppendLies
import Derived.BigRegion
import Derived.Deep.RegionWith
import Derived.Deep.Slices
import Derived.Deep.Fields
import Derived.ChangeSame
import Derived.ProofKit
import Derived.Test.YtaoagaokocnehaaRows
import Derived.Lib.SmallJoins
import Derived.OpenShut
namespace Go.Proofs.Ytaoagaokocnehaa
set_option linter.unusedVariables false
set_option maxRecDepth 100000
set_option linter.unusedSimpArgs false
open Go.RowKit

/-- Outside F what was there is as it was; nothing is lost. -/
structure Keeps (F : Nat → Prop) (w w' : World) : Prop where
  os : w'.os = w.os
  tape : w'.tape = w.tape
  output : w'.output = w.output
  size : w.heap.size ≤ w'.heap.size
  block : ∀ k, k < w.heap.size → ¬ F k → w'.heap[k]? = w.heap[k]?

namespace Keeps
variable {F G : Nat → Prop} {a w w' : World}
theorem refl (F : Nat → Prop) (w : World) : Keeps F w w := ⟨rfl, rfl, rfl, Nat.le_refl _, fun _ _ _ => rfl⟩
theorem mono (h : Keeps F w w') (hs : ∀ k, F k → G k) : Keeps G w w' := ⟨h.os, h.tape, h.output, h.size, fun k hk hg => h.block k hk (fun hf => hg (hs k hf))⟩
theorem trans (h : Keeps F a w) (k : Keeps G w w') (hs : ∀ k, G k → F k ∨ a.heap.size ≤ k) : Keeps F a w' :=
  ⟨k.os.trans h.os, k.tape.trans h.tape, k.output.trans h.output, Nat.le_trans h.size k.size, fun i hi hf =>
    (k.block i (Nat.lt_of_lt_of_le hi h.size) (fun hg => by rcases hs i hg with h1 | h1; exact hf h1; omega)).trans (h.block i hi hf)⟩
theorem trans' (h : Keeps F a w) (k : Keeps F w w') : Keeps F a w' := h.trans k fun _ h => .inl h
theorem alloc (h : Keeps F a w) (o : Obj) : Keeps F a (w.alloc o) :=
  h.trans (G := fun _ => False) ⟨rfl, rfl, rfl, by simp, fun k hk _ => Below.heap_alloc _ _ _ hk⟩ (by simp)
theorem setCell (h : Keeps F a w) {p : Addr} (hp : F p.block ∨ a.heap.size ≤ p.block) (v : Value) : Keeps F a (w.setCell p v) :=
  h.trans (G := fun k => k = p.block) ⟨rfl, rfl, rfl, by simp, fun k _ hk => Below.heap_setCell _ _ _ _ hk⟩ (by rintro k rfl; exact hp)
theorem set (h : Keeps F a w) (b o : Nat) (hp : F b ∨ a.heap.size ≤ b) (v : Value) : Keeps F a (w.setCell ⟨b, o, none⟩ v) := h.setCell hp v
theorem one (w : World) (p : Addr) (v : Value) : Keeps (fun k => k = p.block) w (w.setCell p v) := ⟨rfl, rfl, rfl, by simp, fun _ _ hk => Below.heap_setCell _ _ _ _ hk⟩
theorem drew (h : Keeps F a w) : Keeps F a w.drew := ⟨h.os, h.tape, h.output, h.size, h.block⟩
theorem drewN (h : Keeps F a w) (n : Nat) : Keeps F a (w.drewN n) := ⟨h.os, h.tape, h.output, h.size, h.block⟩
theorem grown {row : Option Nat} (h : Keeps F a w) (hg : w.grownBy w' row) (hr : ∀ k, row = some k → F k ∨ a.heap.size ≤ k) : Keeps F a w' :=
  h.trans (G := fun k => row = some k) ⟨hg.os, hg.tape, hg.output, hg.size, fun k hk hn => hg.block k hk (fun e => hn e.symm)⟩ hr
theorem cell (h : Keeps F w w') {p : Addr} (hp : ¬ F p.block) (hl : p.block < w.heap.size) : w'.cell? p = w.cell? p := World.cell?_of_block (w := w) (h.block _ hl hp)
theorem frozen (h : Keeps F w w') {p : Addr} (hp : ¬ F p.block) (hl : p.block < w.heap.size) : w'.frozen? p = w.frozen? p := World.frozen?_of_block (w := w) (h.block _ hl hp)
theorem cellSome (h : Keeps F w w') {p : Addr} {v : Value} (hp : ¬ F p.block) (hc : w.cell? p = some v) : w'.cell? p = some v := (h.cell hp (World.block_lt_of_cell? w p hc)).trans hc
theorem below {B : Nat} (h : Keeps F w w') (hF : ∀ k, F k → B ≤ k) (hB : B ≤ w.heap.size) : Below B w w' :=
  ⟨h.os, h.tape, h.output, h.size, fun k hk => h.block k (by omega) (fun hf => by have := hF k hf; omega)⟩
theorem ofBelow (h : Below w.heap.size w w') : Keeps F w w' := ⟨h.os, h.tape, h.output, h.size, fun k hk _ => h.block k hk⟩
theorem heapSome (h : Keeps F w w') {b : Nat} {o : Obj} (hp : ¬ F b) (hc : w.heap[b]? = some o) : w'.heap[b]? = some o :=
  (h.block b (Array.getElem?_eq_some_iff.1 hc).1 hp).trans hc
end Keeps

/-- Block b holds just these cells. -/
def Blk (w : World) (b : Nat) (cs : Array Value) (T : TypeId) : Prop := w.heap[b]? = some (.cells cs T (0, 0))
namespace Blk
variable {w w' : World} {b : Nat} {cs : Array Value} {T : TypeId}
theorem lt (h : Blk w b cs T) : b < w.heap.size := (Array.getElem?_eq_some_iff.1 h).1
theorem cell (h : Blk w b cs T) (i : Nat) : w.cell? ⟨b, i, none⟩ = cs[i]? := by simp only [Blk] at h; simp [World.cell?, h]
theorem frozen (h : Blk w b cs T) (i : Nat) : w.frozen? ⟨b, i, none⟩ = false := by simp only [Blk] at h; simp [World.frozen?, h]
theorem keeps {F : Nat → Prop} (h : Blk w b cs T) (k : Keeps F w w') (hp : ¬ F b) : Blk w' b cs T := k.heapSome hp h
theorem below {B : Nat} (h : Blk w b cs T) (k : Below B w w') (hp : b < B) : Blk w' b cs T := (k.block b hp).trans h
theorem alloc (h : Blk w b cs T) (o : Obj) : Blk (w.alloc o) b cs T := (Below.heap_alloc _ _ _ h.lt).trans h
theorem new (w : World) (cs : Array Value) (T : TypeId) : Blk (w.alloc (.cells cs T)) w.heap.size cs T := heap_alloc_new w _
theorem drew (h : Blk w b cs T) : Blk w.drew b cs T := h
theorem drewN (h : Blk w b cs T) (n : Nat) : Blk (w.drewN n) b cs T := h
theorem other (h : Blk w b cs T) {a : Addr} (hne : b ≠ a.block) (v : Value) : Blk (w.setCell a v) b cs T := (Below.heap_setCell _ _ _ _ hne).trans h
theorem set (h : Blk w b cs T) (i : Nat) (v : Value) : Blk (w.setCell ⟨b, i, none⟩ v) b (cs.setIfInBounds i v) T := by
  unfold Blk at *
  simp [World.setCell, Array.getElem?_modify, h]
end Blk

def ints (l : List Int) : List Value := l.map (.int .i64)
theorem ints_length (l : List Int) : (ints l).length = l.length := by simp [ints]
theorem ints_get (l : List Int) (i : Nat) (h : i < l.length) : (ints l)[i]? = some (.int .i64 (l.getD i 0)) := by
  simp [ints, List.getElem?_eq_getElem h, List.getD_eq_getElem?_getD]
theorem ints_set (l : List Int) (i : Nat) (v : Int) : (ints l).set i (.int .i64 v) = ints (l.set i v) := by
  simp [ints, List.map_set]
theorem ints_append (l m : List Int) : ints (l ++ m) = ints l ++ ints m := by simp [ints]
theorem ints_one (l : List Int) : ∀ u ∈ ints l, u.oneCell' = true := by
  intro u hu
  obtain ⟨x, _, rfl⟩ := List.mem_map.1 hu
  rfl

/-- A row of the program's own. -/
abbrev Own (w : World) (e : TypeId) (size : Nat) (v : Value) (n : Nat) (xs : List Value) : Prop := w.ownsRow 0 e size v n xs

theorem own_lt {w : World} {e : TypeId} {size : Nat} {v : Value} {n : Nat} {xs : List Value} (h : Own w e size v n xs) {k : Nat} (hk : v.ownBlock = some k) : k < w.heap.size := (h.lt k hk).2
theorem own_keeps {F : Nat → Prop} {w w' : World} {e : TypeId} {size : Nat} {v : Value} {n : Nat} {xs : List Value} (h : Own w e size v n xs) (k : Keeps F w w') (hd : ∀ b, v.ownBlock = some b → ¬ F b) : Own w' e size v n xs := by
  obtain ⟨h1, h2⟩ := h
  refine ⟨h1, ?_⟩
  rcases h2 with h2 | ⟨g, cap, cur, rfl, hb, hh, r⟩
  · exact .inl h2
  · exact .inr ⟨g, cap, cur, rfl, hb, k.heapSome (hd g rfl) hh, r⟩
theorem own_shape {w : World} {e : TypeId} {size : Nat} {v : Value} {n : Nat} {xs : List Value} (h : Own w e size v n xs) : ∃ a c, v = .slice a n c := by
  rcases h.2 with ⟨rfl, rfl⟩ | ⟨g, cap, cur, rfl, _⟩
  · exact ⟨none, 0, rfl⟩
  · exact ⟨_, cap, rfl⟩
theorem own_open {w : World} {e : TypeId} {size : Nat} {v : Value} {n : Nat} {xs : List Value} (h : Own w e size v n xs) (hn : 0 < n) : ∃ g c, v = .slice (some ⟨g, 0, none⟩) n c ∧ n ≤ c ∧ c ≤ maxLen := by
  rcases h.2 with ⟨_, rfl⟩ | ⟨g, cap, cur, rfl, _, _, h1, h2, _⟩
  · omega
  · exact ⟨g, cap, rfl, h1, h2⟩
theorem own_type_ne {w : World} {e e' : TypeId} {s s' n n' : Nat} {v v' : Value} {xs xs' : List Value} (h : Own w e s v n xs) (h' : Own w e' s' v' n' xs') (hne : e ≠ e') {k : Nat} (hk : v.ownBlock = some k) : v'.ownBlock ≠ some k := by
  intro hk'
  rcases h.2 with ⟨rfl, _⟩ | ⟨g, cap, cur, rfl, _, hh, _⟩
  · simp [Value.ownBlock] at hk
  rcases h'.2 with ⟨rfl, _⟩ | ⟨g', cap', cur', rfl, _, hh', _⟩
  · simp [Value.ownBlock] at hk'
  obtain rfl : g = k := by simpa [Value.ownBlock] using hk
  obtain rfl : g' = g := by simpa [Value.ownBlock] using hk'
  rw [hh] at hh'
  injection hh' with hh'
  injection hh' with _ ht
  exact hne ht
theorem own_blk_ne {w : World} {e T : TypeId} {s n b : Nat} {v : Value} {xs : List Value} {cs : Array Value} (h : Own w e s v n xs) (h' : Blk w b cs T) (hne : e ≠ T) : v.ownBlock ≠ some b := by
  intro hk
  rcases h.2 with ⟨rfl, _⟩ | ⟨g, cap, cur, rfl, _, hh, _⟩
  · simp [Value.ownBlock] at hk
  obtain rfl : g = b := by simpa [Value.ownBlock] using hk
  unfold Blk at h'
  rw [hh] at h'
  injection h' with hh'
  injection hh' with _ ht
  exact hne ht

theorem own_lit (w : World) (e : TypeId) (cs : List Value) (hm : cs.length ≤ maxLen) : Own (w.alloc (.cells cs.toArray e)) e 1 (.slice (some ⟨w.heap.size, 0, none⟩) cs.length cs.length) cs.length cs := by
  have := World.ownsRow_lit (base := 0) (e := e) (size := 1) w cs.toArray cs.length (Nat.zero_le _) hm (by simp)
  simpa using this
theorem own_made (w : World) (e : TypeId) (z : Value) (n : Nat) (hm : n ≤ maxLen) : Own (w.alloc (.cells (madeCells #[z] n) e)) e 1 (.slice (some ⟨w.heap.size, 0, none⟩) n n) n (List.replicate n z) := by
  have h := World.ownsRow_lit (base := 0) (e := e) (size := 1) w (madeCells #[z] n) n (Nat.zero_le _) hm (by simp [size_madeCells])
  rwa [toList_madeCells_one] at h
section
variable {P : Program} (w : World)
set_option maxHeartbeats 800000 in
/-- append(s, make([]T, k)...) onto a row of the program's own: it has k zeros more. -/
theorem run_append_zeros_own (t tn ty e : TypeId) (kq kn : IntKind) (z : Value) (bytes : Nat) (ht : P.underlying t = some (.slice e)) (htn : P.underlying tn = some (.int kn))
    (hinfo : (P.info? e).map (fun i => (i.zero, i.size, i.bytes)) = some (some z, 1, bytes)) (hz1 : z.cells = #[z]) (hzo : z.oneCell' = true) (hb0 : 0 < bytes)
    (v : Value) (n : Nat) (xs : List Value) (hown : Own w e 1 v n xs) (k : Nat) (h0 : 0 < k) (hbytes : (n + k) * bytes ≤ 140737488355328) :
    ∃ v' w', (Builtin.append_ #[t, tn] ty #[v, .int kq k]).run P w = .ok v' w' ∧ Own w' e 1 v' (n + k) (xs ++ List.replicate k z) ∧ w.grownBy w' v.ownBlock ∧
      (v'.ownBlock = v.ownBlock ∨ v'.ownBlock = some w.heap.size) := by
  obtain ⟨i, hi, hz, hsize, hby⟩ := info_parts hinfo
  subst hby
  have hnk : n + k ≤ 140737488355328 := Nat.le_trans (Nat.le_mul_of_pos_right _ hb0) hbytes
  have hx1 := hown.1
  have hlen : (xs ++ List.replicate k z).length = (n + k) * 1 := by simp [hx1]
  have hzc : ∀ j, Builtin.zeroCells z.cells j = Array.replicate j z := by
    intro j
    apply Array.ext
    · simp [Builtin.zeroCells, hz1]
    · intro q h1 h2
      simp [Builtin.zeroCells, hz1, Nat.mod_one]
  have hkb : k * i.bytes ≤ 281474976710656 := by
    have : k * i.bytes ≤ (n + k) * i.bytes := Nat.mul_le_mul_right _ (by omega)
    omega
  rcases hown.2 with ⟨rfl, rfl⟩ | ⟨g, cap, cur, rfl, hbg, hg, hnc, hcm, hcs, htake⟩
  · have hx : xs = [] := List.eq_nil_of_length_eq_zero (by simpa using hx1)
    subst hx
    have hr := Lib.run_append_grow_zeros (P := P) w t tn ty e i z kq kn ht htn hi hz none 0 0 [] (by simp [Builtin.firstCells]) k h0 (by omega) (by omega) (by simp only [Nat.zero_add]; omega) hkb (growslice_fits (by omega) hbytes)
    have hge := grownCap_ge w (0 + k) 0 e
    have hcm := grownCap_le_maxLen w (0 + k) 0 e (by simp only [maxLen]; omega)
    refine ⟨_, _, hr, ⟨hlen, .inr ⟨w.heap.size, _, _, rfl, Nat.zero_le _, heap_alloc_new w.drew _, hge, hcm, ?_, ?_⟩⟩, ⟨rfl, rfl, rfl, by simp, fun q hq _ => Below.heap_alloc w.drew _ q hq⟩, .inr rfl⟩
    · simp only [hzc, Array.size_append, Array.size_replicate, List.size_toArray, List.length_nil]
      omega
    · simp [hzc]
  · by_cases hroom : n + k ≤ cap
    · have hst := run_storeCells_at P g n e (List.replicate k z) 0 cur w hg (by simp only [List.length_replicate]; omega) (by intro u hu; rw [List.eq_of_mem_replicate hu]; exact hzo)
      have hw' : IntKind.i64.wrap (k : Int) = k := by rw [IntKind.wrap_i64]; omega
      have hneg : ¬ ((k : Int) < 0) := by omega
      have h48i : ¬ (281474976710656 < (k : Int) * (i.bytes : Int)) := by
        rw [← Int.natCast_mul]
        omega
      have hk0 : k ≠ 0 := by omega
      refine ⟨.slice (some ⟨g, 0, none⟩) (n + k) cap, w.setRow g (cur.toList.take n ++ List.replicate k z ++ cur.toList.drop (n + k)).toArray, ?_, ⟨hlen, .inr ⟨g, cap, _, rfl, hbg, setRow_heap w g cur _ e _ hg, hroom, hcm, ?_, ?_⟩⟩, ⟨rfl, rfl, rfl, by simp, fun k _ hk => setRow_other w g k _ (fun e => hk (by simp [Value.ownBlock, e]))⟩, .inl rfl⟩
      · have hadd : (⟨g, 0, none⟩ : Addr).add n = ⟨g, n, none⟩ := by unfold Addr.add; split <;> simp_all
        simp only [Nat.add_zero, List.length_replicate] at hst
        simp [Builtin.append_, run_underlying ht, run_underlying htn, sizeOf, typeInfo, zeroValue, hi, hz, hsize, asInt, asIntOf, hw', hneg, h48i, hk0, hroom, hadd, hzc, hst]
      · simp only [List.size_toArray, List.length_append, List.length_take, List.length_drop, List.length_replicate, Array.length_toList]
        omega
      · have hxs : xs = cur.toList.take n := by simpa using htake.symm
        rw [hxs, List.take_left']
        simp only [List.length_append, List.length_take, List.length_replicate, Array.length_toList]
        omega
    · have holds : ∀ j u, xs[j]? = some u → w.drew.cell? ((⟨g, 0, none⟩ : Addr).add j) = some u := hown.cells (g := g) rfl
      have hr := Lib.run_append_grow_zeros (P := P) w t tn ty e i z kq kn ht htn hi hz (some ⟨g, 0, none⟩) n cap xs (run_firstCells_some w.drew i.size n _ n cap xs (by simp [hsize, hx1]) holds) k h0 (by omega) (by omega) (by omega) hkb (growslice_fits (by omega) hbytes)
      have hge := grownCap_ge w (n + k) cap e
      have hcm := grownCap_le_maxLen w (n + k) cap e (by simp only [maxLen]; omega)
      refine ⟨_, _, hr, ⟨hlen, .inr ⟨w.heap.size, _, _, rfl, Nat.zero_le _, heap_alloc_new w.drew _, hge, hcm, ?_, ?_⟩⟩, ⟨rfl, rfl, rfl, by simp, fun q hq _ => Below.heap_alloc w.drew _ q hq⟩, .inr rfl⟩
      · simp only [hzc, Array.size_append, Array.size_replicate, List.size_toArray]
        omega
      · have hl2 : (n + k) * 1 = (xs ++ List.replicate k z).length := by rw [hlen]
        rw [hl2, hzc, hzc]
        simp only [Array.toList_append, Array.toList_replicate]
        exact List.take_left

theorem wpList_append_zeros_own {ops : Array Oper} {rest : List Oper} {o : Oper} {a : Act} {Q : Exit → Act → World → Prop} (hgd : o.guard = none) (s x : Operand) (t tn e : TypeId)
    (ho : o.op = .call { callee := .builtin .append, args := #[s, x], argTypes := #[t, tn] })
    (kq kn : IntKind) (z : Value) (bytes : Nat) (ht : P.underlying t = some (.slice e)) (htn : P.underlying tn = some (.int kn))
    (hinfo : (P.info? e).map (fun i => (i.zero, i.size, i.bytes)) = some (some z, 1, bytes)) (hz1 : z.cells = #[z]) (hzo : z.oneCell' = true) (hb0 : 0 < bytes)
    (v : Value) (n : Nat) (xs : List Value) (hs : a.eval s = v) (hown : Own w e 1 v n xs) (k : Nat) (hx : a.eval x = .int kq k) (h0 : 0 < k) (hbytes : (n + k) * bytes ≤ 140737488355328)
    (h : ∀ v' w', Own w' e 1 v' (n + k) (xs ++ List.replicate k z) → w.grownBy w' v.ownBlock → (v'.ownBlock = v.ownBlock ∨ v'.ownBlock = some w.heap.size) → wpList P ops Q rest (a.put o.dst v') w') :
    wpList P ops Q (o :: rest) a w := by
  refine wpList_plain hgd fun K hK => ?_
  obtain ⟨v', w', hr, h2, h3, h4⟩ := run_append_zeros_own (P := P) w t tn o.type e kq kn z bytes ht htn hinfo hz1 hzo hb0 v n xs hown k h0 hbytes
  unfold Oper.wp execOp
  simp only [ho, resolve, invoke, builtin, Sem.run_bind, Sem.run_pure, Result.andThen_ok, List.map_toArray, List.map_cons, List.map_nil, hs, hx, hr]
  exact hK _ _ (h v' w' h2 h3 h4)
end

end Go.Proofs.Ytaoagaokocnehaa
/- Slices of ints that are read; rows known to the cell; copy, clear, append within the room. -/
namespace Go.Proofs.Ytaoagaokocnehaa
set_option linter.unusedVariables false
set_option maxRecDepth 100000
set_option linter.unusedSimpArgs false
open Go.RowKit

/-- A slice of ints that reads as xs. -/
def Rd (w : World) (v : Value) (xs : List Int) : Prop :=
  ∃ a c, v = .slice a xs.length c ∧ xs.length ≤ c ∧ c ≤ 9223372036854775807 ∧ (0 < xs.length → ∃ b o, a = some ⟨b, o, none⟩ ∧ b < w.heap.size ∧ ∀ i, i < xs.length → w.cell? ⟨b, o + i, none⟩ = some (.int .i64 (xs.getD i 0)))
theorem Rd.below {w w' : World} {v : Value} {xs : List Int} (h : Rd w v xs) {B : Nat} (hb : Below B w w') (hB : w.heap.size ≤ B) : Rd w' v xs := by
  obtain ⟨a, c, e, h1, h2, h3⟩ := h
  refine ⟨a, c, e, h1, h2, fun hl => ?_⟩
  obtain ⟨b, o, e2, hlt, hc⟩ := h3 hl
  exact ⟨b, o, e2, Nat.lt_of_lt_of_le hlt hb.size, fun i hi => (hb.cell (p := ⟨b, o + i, none⟩) (Nat.lt_of_lt_of_le hlt hB)).trans (hc i hi)⟩
theorem Rd.keeps {F : Nat → Prop} {w w' : World} {v : Value} {xs : List Int} (h : Rd w v xs) (k : Keeps F w w') (hd : ∀ b, v.ownBlock = some b → ¬ F b) : Rd w' v xs := by
  obtain ⟨a, c, rfl, h1, h2, h3⟩ := h
  refine ⟨a, c, rfl, h1, h2, fun hl => ?_⟩
  obtain ⟨b, o, e2, hlt, hc⟩ := h3 hl
  refine ⟨b, o, e2, Nat.lt_of_lt_of_le hlt k.size, fun i hi => k.cellSome (hd b ?_) (hc i hi)⟩
  rw [e2]
  rfl
theorem Rd.alloc {w : World} {v : Value} {xs : List Int} (h : Rd w v xs) (o : Obj) : Rd (w.alloc o) v xs := h.below ((Below.refl _ w).alloc (Nat.le_refl _) o) (Nat.le_refl _)
theorem Rd.drew {w : World} {v : Value} {xs : List Int} (h : Rd w v xs) : Rd w.drew v xs := h
theorem Rd.drewN {w : World} {v : Value} {xs : List Int} (h : Rd w v xs) (n : Nat) : Rd (w.drewN n) v xs := h
theorem rd_nil (w : World) : Rd w (.slice none 0 0) [] := ⟨none, 0, rfl, by simp, by simp, by simp⟩
theorem own_rd {w : World} {e : TypeId} {v : Value} {n : Nat} {xs : List Int} (h : Own w e 1 v n (ints xs)) : Rd w v xs := by
  have hl : xs.length = n := by have := h.1; simpa [ints] using this
  subst hl
  rcases h.2 with ⟨rfl, e0⟩ | ⟨g, cap, cur, rfl, _, hh, h1, h2, _⟩
  · have : xs = [] := List.eq_nil_of_length_eq_zero e0
    subst this
    exact rd_nil w
  · simp only [maxLen] at h2
    refine ⟨_, _, rfl, h1, by omega, fun hl => ⟨g, 0, rfl, (Array.getElem?_eq_some_iff.1 hh).1, fun i hi => ?_⟩⟩
    rw [Nat.zero_add, World.ownsRow.cellAt h i (by omega), ints_get _ _ hi]
/-- What a walk takes of it. -/
theorem Rd.view {w : World} {v : Value} {xs : List Int} (h : Rd w v xs) : ∃ (n : Nat) (a : Option Addr) (c : Nat) (f : Nat → Int), v = .slice a n c ∧ n = xs.length ∧ n ≤ c ∧ c ≤ 9223372036854775807 ∧ (∀ i, f i = xs.getD i 0) ∧
    (0 < n → ∃ b o, a = some ⟨b, o, none⟩ ∧ b < w.heap.size ∧ ∀ i, i < n → w.cell? ⟨b, o + i, none⟩ = some (.int .i64 (f i))) := by
  obtain ⟨a, c, e, h1, h2, h3⟩ := h
  exact ⟨_, a, c, fun i => xs.getD i 0, e, rfl, h1, h2, fun _ => rfl, h3⟩
theorem Rd.news {w : World} {v : Value} {xs : List Int} (h : Rd w v xs) : ∃ a c, v = .slice a xs.length c ∧ ∀ ad, a = some ad → ∀ j u, (ints xs)[j]? = some u → w.cell? (ad.add j) = some u := by
  obtain ⟨a, c, e, h1, h2, h3⟩ := h
  refine ⟨a, c, e, fun ad had j u hu => ?_⟩
  have hj : j < xs.length := by
    have := (List.getElem?_eq_some_iff.1 hu).1
    simpa [ints] using this
  obtain ⟨b, o, e2, _, hc⟩ := h3 (by omega)
  rw [had] at e2
  injection e2 with e2
  subst e2
  rw [ints_get _ _ hj] at hu
  injection hu with hu
  subst hu
  rw [show (⟨b, o, none⟩ : Addr).add j = ⟨b, o + j, none⟩ by unfold Addr.add; split <;> simp_all]
  exact hc j hj

theorem Blk.news {w : World} {b : Nat} {cs : Array Value} {T : TypeId} (h : Blk w b cs T) : ∀ j u, cs.toList[j]? = some u → w.cell? ((⟨b, 0, none⟩ : Addr).add j) = some u := fun j u hu => by
  rw [show (⟨b, 0, none⟩ : Addr).add j = ⟨b, j, none⟩ by unfold Addr.add; split <;> simp_all, h.cell j]
  simpa using hu

/-- A row in block g, known to the cell. -/
def RowAt (w : World) (e : TypeId) (g : Nat) (cur : List Value) : Prop := w.heap[g]? = some (.cells cur.toArray e (0, 0))
theorem RowAt.lt {w : World} {e : TypeId} {g : Nat} {cur : List Value} (h : RowAt w e g cur) : g < w.heap.size := (Array.getElem?_eq_some_iff.1 h).1
theorem RowAt.cell {w : World} {e : TypeId} {g : Nat} {cur : List Value} (h : RowAt w e g cur) (i : Nat) : w.cell? ⟨g, i, none⟩ = cur[i]? := by unfold RowAt at h; simp [World.cell?, h]
theorem RowAt.frozen {w : World} {e : TypeId} {g : Nat} {cur : List Value} (h : RowAt w e g cur) (i : Nat) : w.frozen? ⟨g, i, none⟩ = false := by unfold RowAt at h; simp [World.frozen?, h]
theorem RowAt.set {w : World} {e : TypeId} {g : Nat} {cur : List Value} (h : RowAt w e g cur) (cs : List Value) : RowAt (w.setRow g cs.toArray) e g cs := setRow_heap w g _ _ e _ h
theorem RowAt.drew {w : World} {e : TypeId} {g : Nat} {cur : List Value} (h : RowAt w e g cur) : RowAt w.drew e g cur := h
theorem RowAt.own {w : World} {e : TypeId} {g n cap : Nat} {cur : List Value} (h : RowAt w e g cur) (h1 : n ≤ cap) (h2 : cap ≤ maxLen) (h3 : cur.length = cap) : Own w e 1 (.slice (some ⟨g, 0, none⟩) n cap) n (cur.take n) :=
  ⟨by simp; omega, .inr ⟨g, cap, cur.toArray, rfl, Nat.zero_le _, h, h1, h2, by simpa using h3, by simp⟩⟩
theorem own_row {w : World} {e : TypeId} {g n cap m : Nat} {xs : List Value} (h : Own w e 1 (.slice (some ⟨g, 0, none⟩) n cap) m xs) : m = n ∧ n ≤ cap ∧ cap ≤ maxLen ∧ xs.length = n ∧ ∃ rest, RowAt w e g (xs ++ rest) ∧ (xs ++ rest).length = cap := by
  obtain ⟨h0, h2 | ⟨g', cap', cur, e2, _, hh, h1, h2, h3, h4⟩⟩ := h
  · simp at h2
  · simp at e2
    obtain ⟨rfl, rfl, rfl⟩ := e2
    have e5 : xs ++ cur.toList.drop n = cur.toList := by
      have h4' : xs = cur.toList.take n := by simpa using h4.symm
      rw [h4', List.take_append_drop]
    refine ⟨rfl, h1, h2, by simpa using h0, cur.toList.drop n, ?_, ?_⟩
    · unfold RowAt
      rw [e5]
      simpa using hh
    · rw [e5]
      simpa using h3
theorem keeps_setRow (w : World) (g : Nat) (cs : Array Value) : Keeps (fun k => k = g) w (w.setRow g cs) := ⟨rfl, rfl, rfl, by simp, fun k _ hk => setRow_other w g k _ hk⟩

section
variable {P : Program} (w : World)
/-- copy into a row, known to the cell. -/
theorem run_copy_row (t ty e : TypeId) (i : TypeInfo) (ht : P.underlying t = some (.slice e)) (hi : P.info? e = some i) (hsize : i.size = 1) (g o dl dc : Nat) (cur : List Value) (hg : RowAt w e g cur)
    (src : Value) (ms m : Nat) (news : List Value) (hl : news.length = m) (hsrc : ∃ a c, src = .slice a ms c ∧ (0 < m → ∃ ad, a = some ad ∧ ∀ j u, news[j]? = some u → w.cell? (ad.add j) = some u)) (h1 : ∀ u ∈ news, u.oneCell' = true) (hm : Nat.min ms dl = m) (hfit : o + m ≤ cur.length) :
    (Builtin.copy_ #[t, t] ty #[.slice (some ⟨g, o, none⟩) dl dc, src]).run P w = .ok (.int .i64 m) (w.setRow g (cur.take o ++ news ++ cur.drop (o + m)).toArray) := by
  obtain ⟨a, c, rfl, hsrc⟩ := hsrc
  subst hl
  have hst := run_storeCells_at P g o e news 0 cur.toArray w hg (by simpa using hfit) h1
  have hf : (Builtin.firstCells 1 news.length (.slice a ms c)).run P w = .ok news.toArray w := by
    by_cases h0 : 0 < news.length
    · obtain ⟨ad, rfl, hc⟩ := hsrc h0
      exact run_firstCells_some w 1 news.length ad ms c news (by simp) hc
    · have : news = [] := List.eq_nil_of_length_eq_zero (by omega)
      subst this
      cases a with
      | none => simp [Builtin.firstCells]
      | some ad => exact run_firstCells_some w 1 0 ad ms c [] (by simp) (by simp)
  simp only [Nat.add_zero] at hst
  simp [Builtin.copy_, run_underlying ht, sizeOf, typeInfo, hi, hsize, Builtin.lenOf, hm, hf, hst, goInt]
/-- clear of a part of a row, known to the cell. -/
theorem run_clear_row (t ty e : TypeId) (z : Value) (ht : P.underlying t = some (.slice e)) (hv : ∀ w, (zeroValue e).run P w = .ok z w) (hz : z.cells = #[z]) (h1 : z.oneCell' = true) (g o n c : Nat) (hn : 0 < n) (cur : List Value) (hg : RowAt w e g cur) (hfit : o + n ≤ cur.length) :
    (Builtin.clear_ #[t] ty #[.slice (some ⟨g, o, none⟩) n c]).run P w = .ok (.tuple #[]) (w.setRow g (cur.take o ++ List.replicate n z ++ cur.drop (o + n)).toArray) := by
  have hzc : (Builtin.zeroCells z.cells n).toList = List.replicate n z := by
    rw [hz]
    simp [Builtin.zeroCells]
    apply List.ext_getElem
    · simp
    · intro i h1 h2
      simp [Nat.mod_one]
  have hst := run_storeCells_at P g o e (List.replicate n z) 0 cur.toArray w hg (by simpa using hfit) (by intro v hv'; rw [List.eq_of_mem_replicate hv']; exact h1)
  simp only [Nat.add_zero] at hst
  obtain ⟨m, rfl⟩ : ∃ m, n = m + 1 := ⟨n - 1, by omega⟩
  simp [Builtin.clear_, run_underlying ht, hv, hzc, hst]
/-- append within the room of a row, known to the cell. -/
theorem run_append_row (t ty e : TypeId) (i : TypeInfo) (ht : P.underlying t = some (.slice e)) (hi : P.info? e = some i) (hsize : i.size = 1) (g sLen sCap : Nat) (cur : List Value) (hg : RowAt w e g cur)
    (src : Value) (m : Nat) (news : List Value) (hl : news.length = m) (hsrc : ∃ a c, src = .slice a m c ∧ (0 < m → ∃ ad, a = some ad ∧ ∀ j u, news[j]? = some u → w.cell? (ad.add j) = some u)) (h1 : ∀ u ∈ news, u.oneCell' = true) (hroom : sLen + m ≤ sCap) (hfit : sLen + m ≤ cur.length) :
    (Builtin.append_ #[t, t] ty #[.slice (some ⟨g, 0, none⟩) sLen sCap, src]).run P w = .ok (.slice (some ⟨g, 0, none⟩) (sLen + m) sCap) (w.setRow g (cur.take sLen ++ news ++ cur.drop (sLen + m)).toArray) := by
  obtain ⟨a, c, rfl, hsrc⟩ := hsrc
  subst hl
  have hst := run_storeCells_at P g sLen e news 0 cur.toArray w hg (by simpa using hfit) h1
  have hf : (Builtin.firstCells 1 news.length (.slice a news.length c)).run P w = .ok news.toArray w := by
    by_cases h0 : 0 < news.length
    · obtain ⟨ad, rfl, hc⟩ := hsrc h0
      exact run_firstCells_some w 1 news.length ad news.length c news (by simp) hc
    · have : news = [] := List.eq_nil_of_length_eq_zero (by omega)
      subst this
      cases a with
      | none => simp [Builtin.firstCells]
      | some ad => exact run_firstCells_some w 1 0 ad 0 c [] (by simp) (by simp)
  have hadd : (⟨g, 0, none⟩ : Addr).add sLen = ⟨g, sLen, none⟩ := by unfold Addr.add; split <;> simp_all
  simp only [Nat.add_zero] at hst
  simp [Builtin.append_, run_underlying ht, sizeOf, typeInfo, hi, hsize, Builtin.lenOf, hroom, hf, hadd, hst]

/-- A builtin whose run is known, at its operation. -/
theorem wpList_builtin {ops : Array Oper} {rest : List Oper} {o : Oper} {a : Act} {Q : Exit → Act → World → Prop} (hgd : o.guard = none) (b : Builtin) (args : Array Operand) (ts : Array TypeId)
    (ho : o.op = .call { callee := .builtin b, args := args, argTypes := ts }) {v : Value} {w' : World} (hrun : (execOp a.eval o).run P w = .ok (.value v) w')
    (h : wpList P ops Q rest (a.put o.dst v) w') : wpList P ops Q (o :: rest) a w := by
  refine wpList_plain hgd fun K hK => ?_
  unfold Oper.wp
  rw [hrun]
  exact hK _ _ h
theorem wpList_append2 {ops : Array Oper} {rest : List Oper} {o : Oper} {a : Act} {Q : Exit → Act → World → Prop} (hgd : o.guard = none) (s x : Operand) (t tn : TypeId)
    (ho : o.op = .call { callee := .builtin .append, args := #[s, x], argTypes := #[t, tn] }) (v u : Value) (hs : a.eval s = v) (hx : a.eval x = u) {r : Value} {w' : World} (hrun : ∀ ty, (Builtin.append_ #[t, tn] ty #[v, u]).run P w = .ok r w')
    (h : wpList P ops Q rest (a.put o.dst r) w') : wpList P ops Q (o :: rest) a w := by
  refine wpList_plain hgd fun K hK => ?_
  unfold Oper.wp execOp
  simp only [ho, resolve, invoke, builtin, Sem.run_bind, Sem.run_pure, Result.andThen_ok, List.map_toArray, List.map_cons, List.map_nil, hs, hx, hrun]
  exact hK _ _ h
theorem wpList_copy2 {ops : Array Oper} {rest : List Oper} {o : Oper} {a : Act} {Q : Exit → Act → World → Prop} (hgd : o.guard = none) (s x : Operand) (t tn : TypeId)
    (ho : o.op = .call { callee := .builtin .copy, args := #[s, x], argTypes := #[t, tn] }) (v u : Value) (hs : a.eval s = v) (hx : a.eval x = u) {r : Value} {w' : World} (hrun : ∀ ty, (Builtin.copy_ #[t, tn] ty #[v, u]).run P w = .ok r w')
    (h : wpList P ops Q rest (a.put o.dst r) w') : wpList P ops Q (o :: rest) a w := by
  refine wpList_plain hgd fun K hK => ?_
  unfold Oper.wp execOp
  simp only [ho, resolve, invoke, builtin, Sem.run_bind, Sem.run_pure, Result.andThen_ok, List.map_toArray, List.map_cons, List.map_nil, hs, hx, hrun]
  exact hK _ _ h
theorem wpList_clear1 {ops : Array Oper} {rest : List Oper} {o : Oper} {a : Act} {Q : Exit → Act → World → Prop} (hgd : o.guard = none) (s : Operand) (t : TypeId)
    (ho : o.op = .call { callee := .builtin .clear, args := #[s], argTypes := #[t] }) (v : Value) (hs : a.eval s = v) {r : Value} {w' : World} (hrun : ∀ ty, (Builtin.clear_ #[t] ty #[v]).run P w = .ok r w')
    (h : wpList P ops Q rest (a.put o.dst r) w') : wpList P ops Q (o :: rest) a w := by
  refine wpList_plain hgd fun K hK => ?_
  unfold Oper.wp execOp
  simp only [ho, resolve, invoke, builtin, Sem.run_bind, Sem.run_pure, Result.andThen_ok, List.map_toArray, List.map_cons, List.map_nil, hs, hrun]
  exact hK _ _ h
end
end Go.Proofs.Ytaoagaokocnehaa
/- Package objs in plain Lean: what its functions compute. -/
namespace Go.Proofs.Ytaoagaokocnehaa
set_option linter.unusedVariables false
set_option maxRecDepth 100000
set_option linter.unusedSimpArgs false

structure St where
  kind : Int
  L : List Int
  isSealed : Bool
  to : Int
  deriving DecidableEq
structure Op3 where
  code : Int
  a : Int
  b : Int
  deriving DecidableEq

/-- A number within its bounds. -/
def cutI (n : Int) : Int := if n < -1099511627776 then -1099511627776 else if 1099511627776 < n then 1099511627776 else n
theorem cutI_range (n : Int) : -1099511627776 ≤ cutI n ∧ cutI n ≤ 1099511627776 := by unfold cutI; split <;> (try split) <;> omega

def pairsGo (least : Int) : Int → List Int → Bool
  | last, k :: v :: r => if k ≤ last ∨ 255 < k ∨ v < least ∨ 1099511627776 < v then false else pairsGo least k r
  | _, _ => true
def pairsB (l : List Int) (least : Int) : Bool := pairsGo least (-1) l && (decide (l.length % 2 = 0) && decide (l.length ≤ 128))
def withinB (l : List Int) : Bool := !l.any (fun n => n != cutI n)
def mayB (s : St) : Bool :=
  if s.to < 0 ∨ 3 ≤ s.to ∨ (s.isSealed = false ∧ s.to ≠ 0) then false
  else if s.kind = 0 ∨ s.kind = 1 then decide (s.L.length = 1) && withinB s.L
  else if s.kind = 2 ∨ s.kind = 3 then decide (s.L.length ≤ 64) && withinB s.L
  else if s.kind = 4 then pairsB s.L (-1099511627776)
  else if s.kind = 5 then pairsB s.L 0
  else false
def fitsB (o : Op3) : Bool := decide (0 ≤ o.code) && decide (o.code ≤ 10) && (o.a == cutI o.a) && (o.b == cutI o.b)

def findI : List Int → Int → Nat
  | k :: _ :: r, key => if k < key then 2 + findI r key else 0
  | [k], key => if k < key then 2 else 0
  | [], _ => 0
def foundB (l : List Int) (key : Int) : Bool := decide (findI l key < l.length) && (l.getD (findI l key) 0 == key)
def hasI (l : List Int) (key : Int) : Int := if foundB l key then l.getD (findI l key + 1) 0 else -1
def putL (l : List Int) (key n : Int) : List Int := if foundB l key then l.set (findI l key + 1) n else if 128 ≤ l.length then l else l.take (findI l key) ++ [key, n] ++ l.drop (findI l key)
def putB (l : List Int) (key : Int) : Bool := foundB l key || decide (l.length < 128)
def delL (l : List Int) (key : Int) : List Int := l.take (findI l key) ++ l.drop (findI l key + 2)

theorem findI_even : ∀ (l : List Int) (key : Int), findI l key % 2 = 0
  | k :: _ :: r, key => by
    unfold findI
    split
    · have := findI_even r key; omega
    · rfl
  | [k], key => by unfold findI; split <;> rfl
  | [], _ => rfl
theorem findI_le : ∀ (l : List Int) (key : Int), l.length % 2 = 0 → findI l key ≤ l.length
  | k :: v :: r, key, h => by
    have := findI_le r key (by simp at h; omega)
    unfold findI
    split <;> simp <;> omega
  | [k], key, h => by simp at h
  | [], _, _ => Nat.le_refl _

def numberS (s : St) (o : Op3) : St × Int :=
  if o.code = 7 then (s, s.L.getD 0 0)
  else if s.kind = 0 ∧ o.code = 1 then ({ s with L := [cutI (s.L.getD 0 0 + cutI o.a)] }, s.L.getD 0 0)
  else if s.kind = 1 ∧ o.code = 2 then ({ s with L := [cutI o.a] }, s.L.getD 0 0)
  else (s, 0)
def lineS (s : St) (o : Op3) : St × Int :=
  if o.code = 7 then (s, s.L.length)
  else if o.code = 3 ∧ s.L.length < 64 then ({ s with L := s.L ++ [cutI o.a] }, s.L.length + 1)
  else if o.code = 3 ∨ (o.code = 4 ∧ s.L.length = 0) then (s, -1)
  else if o.code ≠ 4 then (s, 0)
  else if s.kind = 2 then ({ s with L := s.L.drop 1 }, s.L.getD 0 0)
  else ({ s with L := s.L.take (s.L.length - 1) }, s.L.getD (s.L.length - 1) 0)
def storeS (s : St) (o : Op3) : St × Int :=
  if ¬ (o.code = 7 ∨ o.code = 6 ∨ o.code = 5) then (s, 0)
  else if o.a < 0 ∨ 255 < o.a then (s, -1)
  else if o.code = 6 ∧ foundB s.L o.a = true then ({ s with L := delL s.L o.a }, hasI s.L o.a)
  else if o.code = 5 then (if putB s.L o.a = true then ({ s with L := putL s.L o.a (cutI o.b) }, hasI s.L o.a) else (s, -2))
  else (s, hasI s.L o.a)
def moveS (s : St) (o : Op3) : St × Int :=
  if o.a < 0 ∨ 65536 ≤ o.a ∨ o.b < 0 then (s, 0)
  else if hasI s.L (o.a / 256) < o.b then (s, 0)
  else if o.a / 256 = o.a % 256 then (s, 1)
  else if putB s.L (o.a % 256) = false ∨ 1099511627776 < max (hasI s.L (o.a % 256)) 0 + o.b then (s, 0)
  else ({ s with L := putL (putL s.L (o.a % 256) (max (hasI s.L (o.a % 256)) 0 + o.b)) (o.a / 256) (hasI s.L (o.a / 256) - o.b) }, 1)
def ledgerS (s : St) (o : Op3) : St × Int :=
  if o.code = 9 then moveS s o
  else if o.code ≠ 7 ∧ o.code ≠ 8 then (s, 0)
  else if o.a < 0 ∨ 255 < o.a then (s, -1)
  else if o.code = 7 then (s, hasI s.L o.a)
  else if o.b < 0 then (s, -1)
  else if putB s.L o.a = true then ({ s with L := putL s.L o.a (cutI (max (hasI s.L o.a) 0 + cutI o.b)) }, cutI (max (hasI s.L o.a) 0 + cutI o.b))
  else (s, -2)
def stepS (s : St) (o : Op3) : St × Int :=
  if mayB s = false then (s, 0)
  else if s.isSealed = true then (s, -1125899906842624)
  else if o.code = 10 then ({ s with isSealed := true, to := if 0 ≤ o.a ∧ o.a < 3 then o.a else s.to }, 0)
  else if s.kind = 0 ∨ s.kind = 1 then numberS s o
  else if s.kind = 2 ∨ s.kind = 3 then lineS s o
  else if s.kind = 4 then storeS s o
  else ledgerS s o
def foldS (s : St) : List Op3 → St × List Int
  | [] => (s, [])
  | o :: r => let (t, n) := stepS s o; let (u, l) := foldS t r; (u, n :: l)
def startS (kind : Int) : St :=
  if kind = 0 ∨ kind = 1 then ⟨kind, [0], false, 0⟩
  else if kind = 2 ∨ kind = 3 ∨ kind = 4 ∨ kind = 5 then ⟨kind, [], false, 0⟩
  else ⟨0, [], false, 0⟩
end Go.Proofs.Ytaoagaokocnehaa
/- Package slices at []int: Clone, Equal, ContainsFunc (by objs.May's closure), Delete, Insert. -/
namespace Go.Proofs.Ytaoagaokocnehaa
set_option linter.unusedVariables false
set_option maxRecDepth 100000
set_option linter.unusedSimpArgs false
open Go.RowKit

theorem infoInt : (Try.prog.info? 3).map (fun i => (i.zero, i.size, i.bytes)) = some (some (.int .i64 0), 1, 8) := by kernel_rfl

/-- What Clone leaves: a row of its own. -/
def CloneP (w : World) (xs : List Int) (e : Ending) (w' : World) : Prop :=
  ∃ v', e = .returned v' ∧ Own w' 3 1 v' xs.length (ints xs) ∧ (∀ k, v'.ownBlock = some k → w.heap.size ≤ k) ∧ Below w.heap.size w w'

set_option maxHeartbeats 800000 in
theorem sl_clone {w : World} {v : Value} {xs : List Int} (h : Rd w v xs) (hl : xs.length ≤ 17592186044416) :
    Calls Try.prog 42 #[v] w (CloneP w xs) := by
  obtain ⟨i0, hi, hz0, hz1, hz2⟩ := info_parts infoInt
  obtain ⟨a, c, rfl, hnews⟩ := h.news
  have hq : ∀ (w : World) (a : Option Addr) (n c n' c' : Nat), (binOp .eql 22 (.slice a n c) (.slice none n' c')).run Try.prog w = .ok (.bool a.isNone) w := fun w a n c n' c' => Lib.run_eql_slice_nil w _ _ a n c n' c' Try.underlying22
  cases a with
  | none =>
    have hx : xs = [] := by
      obtain ⟨a, c, e, _, _, h3⟩ := h
      by_cases h0 : 0 < xs.length
      · obtain ⟨b, o, e2, _⟩ := h3 h0
        rw [e2] at e
        simp at e
      · exact List.eq_nil_of_length_eq_zero (by omega)
    subst hx
    have fin : CloneP w [] (.returned (.slice none 0 0)) w := ⟨_, rfl, World.ownsRow_nil .., by simp [Value.ownBlock], Below.refl _ _⟩
    have HF := Lib.hid fin
    clear fin hnews h
    go_enter Try.func42, Try.ntmps42
    go_wp2
    go_ret
    exact HF.out
  | some ad =>
    have hn := hnews ad rfl
    have fin : ∀ v' w1, Own w1 3 1 v' (0 + xs.length) ([] ++ ints xs) → (w.alloc (.cells #[] 3)).grownBy w1 (some w.heap.size) → (v'.ownBlock = some w.heap.size ∨ v'.ownBlock = some (w.heap.size + 1)) → CloneP w xs (.returned v') w1 := by
      intro v' w1 hown hg hat
      refine ⟨v', rfl, by simpa using hown, ?_, ((Below.refl _ w).alloc (Nat.le_refl _) _).grown hg (by simp) (by rintro k ⟨⟩; exact Nat.le_refl _)⟩
      intro k hk
      rcases hat with e | e <;> rw [e] at hk <;> injection hk <;> omega
    have HF := Lib.hid fin
    have HN := Lib.hid hn
    have HO : Own (w.alloc (.cells #[] 3)) 3 1 (.slice (some ⟨w.heap.size, 0, none⟩) 0 0) 0 [] := by
      have := own_lit w 3 [] (by simp)
      simpa using this
    have HW := Lib.hid HO
    have HC : Hid (∀ j u, (ints xs)[j]? = some u → (w.alloc (.cells #[] 3)).cell? (ad.add j) = some u) := fun j u hu => Lib.cell?_alloc_some _ (hn j u hu)
    clear fin hn hnews h HO
    go_enter Try.func42, Try.ntmps42
    go_wp2_with (at_builtin; refine wpList_append_own_at _ rfl _ _ 22 rfl 0 3 i0 (.int .i64 0) 1 8 Try.underlying22 hi hz0 hz1 hz2 rfl (by decide) (.slice (some ⟨w.heap.size, 0, none⟩) 0 0) _ _ rfl HW.out ad xs.length c (ints xs) rfl (by simp [ints]) HC.out (ints_one xs) (by simp only [maxLen]; omega) (by omega) (Nat.zero_le _) ?_; intro v' w1 hown hgrow hnil hat)
    go_ret
    exact HF.out _ _ hown hgrow (by simpa [Value.ownBlock] using hat)

theorem getD_ne {xs ys : List Int} {k : Nat} (h : xs.getD k 0 ≠ ys.getD k 0) : xs ≠ ys := fun e => h (by rw [e])
theorem list_eq_of {xs ys : List Int} (hl : xs.length = ys.length) (h : ∀ k, k < xs.length → xs.getD k 0 = ys.getD k 0) : xs = ys := by
  apply List.ext_getElem hl
  intro i h1 h2
  have := h i h1
  simpa [List.getD_eq_getElem?_getD, List.getElem?_eq_getElem h1, List.getElem?_eq_getElem h2] using this

/-- The function returns b; what was there stays. -/
def Tells (w : World) (b : Bool) (e : Ending) (w' : World) : Prop := e = .returned (.bool b) ∧ Below w.heap.size w w'
/-- The function returns an int; what was there stays. -/
def TellsI (w : World) (n : Int) (e : Ending) (w' : World) : Prop := e = .returned (.int .i64 n) ∧ Below w.heap.size w w'

set_option maxHeartbeats 1600000 in
theorem sl_equal {w : World} {v u : Value} {xs ys : List Int} (hx : Rd w v xs) (hy : Rd w u ys) :
    Calls Try.prog 39 #[v, u] w (Tells w (decide (xs = ys))) := by
  obtain ⟨n, a, c, f, rfl, hn, hnc, hcm, hf, hv⟩ := hx.view
  obtain ⟨m, a2, c2, g, rfl, hm, hmc, hcm2, hg, hv2⟩ := hy.view
  clear hx hy
  by_cases hnm : n = m
  · subst hnm
    have hne : ((n : Int) != n) = false := by simp
    have HV := Lib.hid hv
    have HV2 := Lib.hid hv2
    have HN := Lib.hid hn
    have HM := Lib.hid hm
    have HF := Lib.hid hf
    have HG := Lib.hid hg
    clear hv hv2 hn hm hf hg
    go_enter Try.func39, Try.ntmps39
    go_wp2_with fail
    go_loopw [13] (fun i wr => ∃ k : Nat, k ≤ n ∧ i = .int .i64 k ∧ (∃ q, wr = w.drewN q) ∧ ∀ j, j < k → f j = g j) (fun i _ => n - (intOf i).toNat)
    case atStart => exact ⟨0, Nat.zero_le _, rfl, ⟨0, rfl⟩, by intro j hj; omega⟩
    case round =>
      obtain ⟨k, hk, rfl, ⟨q, rfl⟩, hfg⟩ := hrel
      have HE := Lib.hid hfg
      clear hfg
      by_cases hlt : k < n
      · obtain ⟨b, o, rfl, hb, hc⟩ := HV.out (by omega)
        obtain ⟨b2, o2, rfl, hb2, hc2⟩ := HV2.out (by omega)
        have h1 := hc k hlt
        have h2 := hc2 k hlt
        clear hc hc2
        have HK : Hid (f k = f k ∧ g k = g k) := ⟨rfl, rfl⟩
        obtain ⟨fk, hfk⟩ : ∃ fk, fk = f k := ⟨_, rfl⟩
        obtain ⟨gk, hgk⟩ : ∃ gk, gk = g k := ⟨_, rfl⟩
        rw [← hfk] at h1
        rw [← hgk] at h2
        have HFK := Lib.hid hfk
        have HGK := Lib.hid hgk
        clear hfk hgk HK
        by_cases he : fk = gk
        · subst he
          have hnb : (fk != fk) = false := by simp
          go_wp2_with fail
          go_quiet (fail)
          go_wp2_with fail
          go_roundw
          case rel => exact ⟨k + 1, by omega, by go_num, ⟨_, rfl⟩, fun j hj => by
            rcases Nat.lt_or_ge j k with h | h
            · exact HE.out j h
            · obtain rfl : j = k := by omega
              rw [← HFK.out, ← HGK.out]⟩
          case measure => simp [intOf]; omega
        · have hnb : (fk != gk) = true := by simpa using he
          have fin : ∀ q r, Tells w (decide (xs = ys)) (.returned (.bool false)) ((w.drewN q).drewN r) := by
            intro q r
            have : xs ≠ ys := by
              refine getD_ne (k := k) ?_
              rw [← HF.out, ← HG.out, ← HFK.out, ← HGK.out]
              exact he
            refine ⟨by rw [decide_eq_false this], ?_⟩
            exact ⟨rfl, rfl, rfl, Nat.le_refl _, fun _ _ => rfl⟩
          have HT := Lib.hid fin
          clear fin he
          go_wp2_with fail
          go_quiet (fail)
          go_wp2_with fail
          go_ret
          exact HT.out _ _
      · obtain rfl : k = n := by omega
        have fin : Tells w (decide (xs = ys)) (.returned (.bool true)) (w.drewN q) := by
          have : xs = ys := list_eq_of (by rw [← HN.out, ← HM.out]) (fun j hj => by rw [← HF.out, ← HG.out]; exact HE.out j (by rw [HN.out]; exact hj))
          exact ⟨by rw [decide_eq_true this], ⟨rfl, rfl, rfl, Nat.le_refl _, fun _ _ => rfl⟩⟩
        have HT := Lib.hid fin
        clear fin
        go_wp2_with fail
        go_ret
        exact HT.out
  · have hne : ((n : Int) != m) = true := by simp; omega
    have fin : Tells w (decide (xs = ys)) (.returned (.bool false)) w := by
      have : xs ≠ ys := fun e => hnm (by rw [hn, hm, e])
      exact ⟨by rw [decide_eq_false this], Below.refl _ _⟩
    have HT := Lib.hid fin
    clear fin hnm hv hv2 hf hg hn hm
    go_enter Try.func39, Try.ntmps39
    go_wp2_with fail
    go_ret
    exact HT.out

theorem ret_i64 {a b : Int} (h : a = b) : Ending.returned (.int .i64 a) = .returned (.int .i64 b) := by rw [h]
theorem o_cut (n : Int) (w : World) : Calls Try.prog 37 #[.int .i64 n] w fun e w' => e = .returned (.int .i64 (cutI n)) ∧ w' = w := by
  by_cases h1 : n < -1099511627776
  · have hc : cutI n = -1099511627776 := by unfold cutI; rw [if_pos h1]
    rw [hc]
    clear hc
    have h2 : n ≤ 1099511627776 := by omega
    go_enter Try.func37, Try.ntmps37
    go_wp2
    all_goals first | (exfalso; omega) | (go_ret; exact ⟨rfl, rfl⟩) | (go_ret; exact ⟨ret_i64 (by omega), rfl⟩)
  · by_cases h2 : 1099511627776 < n
    · have hc : cutI n = 1099511627776 := by unfold cutI; rw [if_neg h1, if_pos h2]
      rw [hc]
      clear hc
      go_enter Try.func37, Try.ntmps37
      go_wp2
      all_goals first | (exfalso; omega) | (go_ret; exact ⟨rfl, rfl⟩) | (go_ret; exact ⟨ret_i64 (by omega), rfl⟩)
    · have hc : cutI n = n := by unfold cutI; rw [if_neg h1, if_neg h2]
      rw [hc]
      clear hc
      go_enter Try.func37, Try.ntmps37
      go_wp2
      all_goals first | (exfalso; omega) | (go_ret; exact ⟨rfl, rfl⟩) | (go_ret; exact ⟨ret_i64 (by omega), rfl⟩)
theorem o_may1 (n : Int) (w : World) : Calls Try.prog 36 #[.int .i64 n] w fun e w' => e = .returned (.bool (n != cutI n)) ∧ w' = w := by
  have HC := Lib.hid (o_cut n w)
  go_enter Try.func36, Try.ntmps36
  go_wp2_with fail
  refine HC.out.mono ?_
  rintro e w' ⟨rfl, rfl⟩
  go_wp2_with fail
  go_ret
  exact ⟨rfl, rfl⟩
theorem call_may1 (args : Array Value) (W : World) : (callFunc 36 args).run Try.prog W = .ok (.enter 36 args) W := by
  go_simp

set_option maxHeartbeats 1600000 in
/-- The first number outside its bounds; -1: none. -/
theorem sl_index {w : World} {v : Value} {xs : List Int} (hx : Rd w v xs) :
    Calls Try.prog 52 #[v, .func (Fn.func 36) #[] #[]] w fun e w' => ∃ r : Int, e = .returned (.int .i64 r) ∧ decide (0 ≤ r) = xs.any (fun n => n != cutI n) ∧ w' = w := by
  obtain ⟨n, a, c, f, rfl, hn, hnc, hcm, hf, hv⟩ := hx.view
  clear hx
  have hcall := call_may1
  have HV := Lib.hid hv
  have HN := Lib.hid hn
  have HF := Lib.hid hf
  clear hv hn hf
  go_enter Try.func52, Try.ntmps52
  go_wp2_with fail
  go_loop [8] (fun i => ∃ k : Nat, k ≤ n ∧ i = .int .i64 k ∧ ∀ j, j < k → f j = cutI (f j)) (fun i => n - (intOf i).toNat)
  case atStart => exact ⟨0, Nat.zero_le _, rfl, by intro j hj; omega⟩
  case round =>
    obtain ⟨k, hk, rfl, hfg⟩ := hrel
    have HE := Lib.hid hfg
    clear hfg
    by_cases hlt : k < n
    · obtain ⟨b, o, rfl, hb, hc⟩ := HV.out (by omega)
      have h1 := hc k hlt
      clear hc
      obtain ⟨fk, hfk⟩ : ∃ fk, fk = f k := ⟨_, rfl⟩
      rw [← hfk] at h1
      have HFK := Lib.hid hfk
      clear hfk
      by_cases he : fk = cutI fk
      · have hc := o_may1 fk w
        rw [show (fk != cutI fk) = false by simpa using he] at hc
        have HC := Lib.hid hc
        have HEQ := Lib.hid he
        clear hc he
        go_wp2_with fail
        refine HC.out.mono ?_
        rintro e w' ⟨rfl, rfl⟩
        go_wp2_with fail
        go_round
        case rel => exact ⟨k + 1, by omega, by go_num, fun j hj => by
            rcases Nat.lt_or_ge j k with h | h
            · exact HE.out j h
            · obtain rfl : j = k := by omega
              rw [← HFK.out]; exact HEQ.out⟩
        case measure => simp [intOf]; omega
      · have hc := o_may1 fk w
        rw [show (fk != cutI fk) = true by simpa using he] at hc
        have HC := Lib.hid hc
        have fin : decide ((0 : Int) ≤ k) = xs.any (fun n => n != cutI n) := by
          have : xs.any (fun n => n != cutI n) = true := by
            rw [List.any_eq_true]
            have hkl : k < xs.length := by rw [← HN.out]; exact hlt
            refine ⟨xs.getD k 0, by simp [List.getD_eq_getElem?_getD, List.getElem?_eq_getElem hkl], ?_⟩
            rw [← HF.out, ← HFK.out]
            simpa using he
          rw [this]
          simp
        have HT := Lib.hid fin
        clear hc he fin
        go_wp2_with fail
        refine HC.out.mono ?_
        rintro e w' ⟨rfl, rfl⟩
        go_wp2_with fail
        go_ret
        exact ⟨k, rfl, HT.out, rfl⟩
    · obtain rfl : k = n := by omega
      have fin : decide ((0 : Int) ≤ -1) = xs.any (fun n => n != cutI n) := by
        have : xs.any (fun n => n != cutI n) = false := by
          rw [List.any_eq_false]
          intro x hx
          obtain ⟨i, hi, rfl⟩ := List.getElem_of_mem hx
          have := HE.out i (by rw [HN.out]; exact hi)
          rw [HF.out] at this
          simp only [List.getD_eq_getElem?_getD, List.getElem?_eq_getElem hi, Option.getD_some] at this
          simpa using this
        rw [this]
        decide
      have HT := Lib.hid fin
      clear fin
      go_wp2_with fail
      go_ret
      exact ⟨-1, rfl, HT.out, rfl⟩
theorem sl_contains {w : World} {v : Value} {xs : List Int} (hx : Rd w v xs) :
    Calls Try.prog 35 #[v, .func (Fn.func 36) #[] #[]] w fun e w' => e = .returned (.bool (xs.any (fun n => n != cutI n))) ∧ w' = w := by
  have HC := Lib.hid (sl_index hx)
  clear hx
  go_enter Try.func35, Try.ntmps35
  go_wp2_with fail
  refine HC.out.mono ?_
  rintro e w' ⟨r, rfl, hr, rfl⟩
  have HR := Lib.hid hr
  clear hr
  go_wp2_with fail
  go_ret
  exact ⟨by rw [← HR.out]; rfl, rfl⟩
end Go.Proofs.Ytaoagaokocnehaa
/- Package slices at []int: Delete, Insert, on a row of the program's own. -/
namespace Go.Proofs.Ytaoagaokocnehaa
set_option linter.unusedVariables false
set_option maxRecDepth 100000
set_option linter.unusedSimpArgs false
open Go.RowKit

theorem zeroInt (w : World) : (zeroValue 3).run Try.prog w = .ok (.int .i64 0) w := by kernel_rfl

/-- What Delete leaves. -/
def DelP (w : World) (g n cap i j : Nat) (xs : List Int) (e : Ending) (w' : World) : Prop :=
  e = .returned (.slice (some ⟨g, 0, none⟩) (i + (n - j)) cap) ∧ Own w' 3 1 (.slice (some ⟨g, 0, none⟩) (i + (n - j)) cap) (i + (n - j)) (ints (xs.take i ++ xs.drop j)) ∧ Keeps (fun k => k = g) w w'

theorem row_news {w : World} {e : TypeId} {g : Nat} {cur : List Value} (h : RowAt w e g cur) (o : Nat) (news : List Value) (hn : ∀ t, t < news.length → cur[o + t]? = news[t]?) : ∀ t u, news[t]? = some u → w.cell? ((⟨g, o, none⟩ : Addr).add t) = some u := by
  intro t u hu
  have ht := (List.getElem?_eq_some_iff.1 hu).1
  rw [show (⟨g, o, none⟩ : Addr).add t = ⟨g, o + t, none⟩ by unfold Addr.add; split <;> simp_all, h.cell (o + t), hn t ht]
  exact hu

set_option maxHeartbeats 1600000 in
theorem sl_delete {w : World} {g n cap : Nat} {xs : List Int} (h : Own w 3 1 (.slice (some ⟨g, 0, none⟩) n cap) n (ints xs)) (i j : Nat) (hij : i < j) (hj : j ≤ n) :
    Calls Try.prog 43 #[.slice (some ⟨g, 0, none⟩) n cap, .int .i64 i, .int .i64 j] w (DelP w g n cap i j xs) := by
  obtain ⟨i0, hi, hz0, hz1, hz2⟩ := info_parts infoInt
  obtain ⟨_, hnc, hcm, hxl, rest, hrow, hrl⟩ := own_row h
  have hxl' : xs.length = n := by simpa [ints] using hxl
  simp only [maxLen] at hcm
  have hcm' : cap ≤ 9223372036854775807 := by omega
  -- the source of the append
  obtain ⟨A, hA, hsrc⟩ : ∃ A : Addr, (if cap = j then some (⟨g, 0, none⟩ : Addr) else some ⟨g, j, none⟩) = some A ∧ Hid (∀ t u, (ints (xs.drop j))[t]? = some u → w.drew.cell? (A.add t) = some u) := by
    by_cases hcj : cap = j
    · refine ⟨⟨g, 0, none⟩, by simp [hcj], fun t u hu => ?_⟩
      have h0 : xs.drop j = [] := List.drop_eq_nil_of_le (by omega)
      rw [h0] at hu
      simp [ints] at hu
    · refine ⟨⟨g, j, none⟩, by simp [hcj], fun t u hu => ?_⟩
      have ht : t < n - j := by
        have := (List.getElem?_eq_some_iff.1 hu).1
        simp [ints] at this
        omega
      rw [show (⟨g, j, none⟩ : Addr).add t = ⟨g, j + t, none⟩ by unfold Addr.add; split <;> simp_all]
      have := hrow.drew.cell (j + t)
      rw [this, List.getElem?_append_left (by simp [ints]; omega)]
      rw [← hu]
      simp [ints]
  obtain ⟨L1, hL1⟩ : ∃ L1 : List Value, L1 = (ints xs ++ rest).take i ++ ints (xs.drop j) ++ (ints xs ++ rest).drop (i + (n - j)) := ⟨_, rfl⟩
  obtain ⟨L2, hL2⟩ : ∃ L2 : List Value, L2 = L1.take (i + (n - j)) ++ List.replicate (n - (i + (n - j))) (Value.int .i64 0) ++ L1.drop (i + (n - j) + (n - (i + (n - j)))) := ⟨_, rfl⟩
  obtain ⟨W1, hW1⟩ : ∃ W1, W1 = w.drew.setRow g L1.toArray := ⟨_, rfl⟩
  have hap : ∀ ty, (Builtin.append_ #[22, 22] ty #[.slice (some ⟨g, 0, none⟩) i cap, .slice (some A) (n - j) (cap - j)]).run Try.prog w.drew = .ok (.slice (some ⟨g, 0, none⟩) (i + (n - j)) cap) W1 := by
    intro ty
    rw [hW1, hL1]
    exact run_append_row w.drew _ ty _ i0 Try.underlying22 hi hz1 g i cap _ hrow.drew _ (n - j) (ints (xs.drop j)) (by simp [ints]; omega) ⟨_, _, rfl, fun _ => ⟨A, rfl, hsrc.out⟩⟩ (ints_one _) (by omega) (by omega)
  have hr1 : RowAt W1 3 g L1 := by rw [hW1]; exact hrow.drew.set _
  have hl1 : L1.length = cap := by
    rw [hL1]
    simp only [List.length_append, List.length_take, List.length_drop, ints_length] at hrl ⊢
    omega
  have hk1 : Keeps (fun k => k = g) w W1 := by
    rw [hW1]
    exact ((Keeps.refl _ w).drew).trans' (keeps_setRow _ g _)
  have hpre : ∀ tl, ((ints xs ++ rest).take i ++ ints (xs.drop j) ++ tl).take (i + (n - j)) = ints (xs.take i ++ xs.drop j) := by
    intro tl
    have e1 : (ints xs ++ rest).take i = ints (xs.take i) := by
      rw [List.take_append_of_le_length (by rw [ints_length]; omega)]
      simp [ints, List.map_take]
    rw [e1, ← ints_append]
    refine List.take_left' ?_
    simp [ints]
    omega
  have hcl0 : L2.length = cap := by
    rw [hL2]
    simp only [List.length_append, List.length_take, List.length_drop, List.length_replicate, hl1]
    omega
  have hcl : ∀ ty, (Builtin.clear_ #[22] ty #[.slice (some ⟨g, i + (n - j), none⟩) (n - (i + (n - j))) (cap - (i + (n - j)))]).run Try.prog W1 = .ok (.tuple #[]) (W1.setRow g L2.toArray) := fun ty => by
    rw [hL2]
    exact run_clear_row W1 _ ty _ _ Try.underlying22 zeroInt rfl rfl g (i + (n - j)) (n - (i + (n - j))) _ (by omega) _ hr1 (by omega)
  have fin : DelP w g n cap i j xs (.returned (.slice (some ⟨g, 0, none⟩) (i + (n - j)) cap)) (W1.setRow g L2.toArray) := by
    refine ⟨rfl, ?_, hk1.trans' (keeps_setRow _ g _)⟩
    have ho := (hr1.set L2).own (n := i + (n - j)) (cap := cap) (by omega) (by simp only [maxLen]; omega) hcl0
    have he : L2.take (i + (n - j)) = ints (xs.take i ++ xs.drop j) := by
      rw [hL2, List.append_assoc, List.take_left' (by rw [List.length_take, hl1]; omega), hL1, hpre]
    rw [he] at ho
    exact ho
  have HAP := Lib.hid hap
  have HCL := Lib.hid hcl
  have HFIN := Lib.hid fin
  have hic : i ≤ cap := by omega
  have hjc : j ≤ cap := by omega
  have hne : ((i : Int) == j) = false := by simp; omega
  clear hap hcl fin hr1 hl1 hk1 hpre hW1 hrow hrl h hxl hxl' hL1 hL2 hcl0 hsrc
  go_enter Try.func43, Try.ntmps43
  go_wp2_with fail
  go_still_tail 6, (by kernel_rfl)
  change wpList _ _ _ _ _ w.drew
  go_wp2_with (refine wpList_append2 _ rfl _ _ 22 22 rfl _ _ rfl rfl HAP.out ?_; have hcl := HCL.out)
  go_ret
  exact HFIN.out

/-- s[lo:] of a slice of ints. -/
theorem run_low (w : World) (g o len cap lo : Nat) (x : Int) (hx : x = lo) (h : lo ≤ len) (hne : ¬ cap = lo) (hm : len ≤ 9223372036854775807) :
    (Instr.slice 22 (.slice (some ⟨g, o, none⟩) len cap) (some (.int .i64 x)) none none).run Try.prog w = .ok (.slice (some ⟨g, o + lo, none⟩) (len - lo) (cap - lo)) w := by
  subst hx
  go_simp

/-- What Insert of two numbers leaves. -/
def InsP (w : World) (v : Value) (n i : Nat) (xs : List Int) (k m : Int) (e : Ending) (w' : World) : Prop :=
  ∃ v', e = .returned v' ∧ Own w' 3 1 v' (n + 2) (ints (xs.take i ++ [k, m] ++ xs.drop i)) ∧ (v'.ownBlock = v.ownBlock ∨ ∃ b, v'.ownBlock = some b ∧ w.heap.size ≤ b) ∧ Keeps (fun b => v.ownBlock = some b) w w'

set_option maxHeartbeats 1600000 in
theorem sl_insert_end {w : World} {v : Value} {n : Nat} {xs : List Int} (h : Own w 3 1 v n (ints xs)) (gv : Nat) (k m : Int) (hv : Blk w gv #[.int .i64 k, .int .i64 m] 3) (hn : n ≤ 1099511627776) :
    Calls Try.prog 53 #[v, .int .i64 n, .slice (some ⟨gv, 0, none⟩) 2 2] w (InsP w v n n xs k m) := by
  obtain ⟨i0, hi, hz0, hz1, hz2⟩ := info_parts infoInt
  have hxl : xs.length = n := by have := h.1; simpa [ints] using this
  have fin : ∀ v' w1, Own w1 3 1 v' (n + 2) (ints xs ++ [.int .i64 k, .int .i64 m]) → w.grownBy w1 v.ownBlock → (v'.ownBlock = v.ownBlock ∨ v'.ownBlock = some w.heap.size) → InsP w v n n xs k m (.returned v') w1 := by
    intro v' w1 hown hg hat
    refine ⟨v', rfl, ?_, ?_, (Keeps.refl _ w).grown hg (fun b hb => .inl hb)⟩
    · rw [List.take_of_length_le (by omega), List.drop_eq_nil_of_le (by omega), List.append_nil, ints_append]
      exact hown
    · rcases hat with e | e
      · exact .inl e
      · exact .inr ⟨_, e, Nat.le_refl _⟩
  obtain ⟨a, c, rfl⟩ : ∃ a c, v = .slice a n c := by
    rcases h.2 with ⟨rfl, rfl⟩ | ⟨g, cap, cur, rfl, _⟩
    · exact ⟨none, 0, rfl⟩
    · exact ⟨_, cap, rfl⟩
  have hcm : n ≤ c ∧ c ≤ 9223372036854775807 := by
    rcases h.2 with ⟨e, e0⟩ | ⟨g, cap, cur, e, _, _, h1, h2, _⟩
    · simp at e; omega
    · simp only [maxLen] at h2
      simp at e
      omega
  obtain ⟨hc1, hc2⟩ := hcm
  obtain ⟨A1, hq⟩ : ∃ A1, ∀ (w : World), (Instr.slice 22 (.slice a n c) (some (.int .i64 n)) none none).run Try.prog w = .ok (.slice A1 (n - n) (c - n)) w := by
    refine ⟨if c = n then a else a.map (·.add n), ?_⟩
    intro w
    go_simp
    all_goals omega
  have HF := Lib.hid fin
  have HO := Lib.hid h
  have HV := Lib.hid hv.news
  have hnn : ((n : Int) == n) = true := by simp
  clear fin h hv hxl
  go_enter Try.func53, Try.ntmps53
  go_wp2_with (at_builtin; refine wpList_append_own_at _ rfl _ _ 22 rfl 0 3 i0 (.int .i64 0) 1 8 Try.underlying22 hi hz0 hz1 hz2 rfl (by decide) (.slice a n c) _ _ rfl HO.out ⟨gv, 0, none⟩ 2 2 [.int .i64 k, .int .i64 m] rfl (by simp) HV.out (by simp [Value.oneCell']) (by simp only [maxLen]; omega) (by omega) (Nat.zero_le _) ?_; intro v' w1 hown hgrow hnil hat)
  go_ret
  exact HF.out _ _ hown hgrow hat

set_option maxHeartbeats 1600000 in
theorem sl_insert_grow {w : World} {g n cap i : Nat} {xs : List Int} (h : Own w 3 1 (.slice (some ⟨g, 0, none⟩) n cap) n (ints xs)) (gv : Nat) (k m : Int) (hv : Blk w gv #[.int .i64 k, .int .i64 m] 3) (hn : n ≤ 1099511627776) (hin : i < n) (hgr : cap < n + 2) :
    Calls Try.prog 53 #[.slice (some ⟨g, 0, none⟩) n cap, .int .i64 i, .slice (some ⟨gv, 0, none⟩) 2 2] w (InsP w (.slice (some ⟨g, 0, none⟩) n cap) n i xs k m) := by
  obtain ⟨i0, hi, hz0, hz1, hz2⟩ := info_parts infoInt
  obtain ⟨_, hnc, hcm, hxl, rest, hrow, hrl⟩ := own_row h
  have hxl' : xs.length = n := by simpa [ints] using hxl
  have hcm' : cap ≤ 9223372036854775807 := by simp only [maxLen] at hcm; omega
  obtain ⟨C, hC⟩ : ∃ C, C = grownCap w (n + 2) cap 3 := ⟨_, rfl⟩
  have hCge : n + 2 ≤ C := by rw [hC]; exact grownCap_ge _ _ _ _
  have hCle : C ≤ maxLen := by rw [hC]; exact grownCap_le_maxLen w (n + 2) cap 3 (by simp only [maxLen]; omega)
  have hCle' : C ≤ 9223372036854775807 := by simp only [maxLen] at hCle; omega
  obtain ⟨L0, hL0⟩ : ∃ L0 : List Value, L0 = ints (xs.take i) ++ List.replicate (n + 2 - i) (Value.int .i64 0) ++ List.replicate (C - (n + 2)) (Value.int .i64 0) := ⟨_, rfl⟩
  have hl0 : L0.length = C := by rw [hL0]; simp [ints]; omega
  obtain ⟨W1, hW1⟩ : ∃ W1, W1 = w.drew.alloc (.cells L0.toArray 3) := ⟨_, rfl⟩
  have hzc : ∀ q, Builtin.zeroCells (Value.int .i64 0).cells q = Array.replicate q (Value.int .i64 0) := by
    intro q
    apply Array.ext
    · simp [Builtin.zeroCells, Value.cells]
    · intro a b c
      simp [Builtin.zeroCells, Value.cells, Nat.mod_one]
  have hap : ∀ ty, (Builtin.append_ #[22, 3] ty #[.slice (some ⟨g, 0, none⟩) i cap, .int .i64 ((n : Int) + 2 - i)]).run Try.prog w = .ok (.slice (some ⟨w.heap.size, 0, none⟩) (n + 2) C) W1 := by
    intro ty
    have hf : (Builtin.firstCells i0.size i (.slice (some ⟨g, 0, none⟩) i cap)).run Try.prog w.drew = .ok (ints (xs.take i)).toArray w.drew := by
      rw [hz1]
      refine run_firstCells_some w.drew 1 i _ i cap (ints (xs.take i)) (by simp [ints]; omega) (row_news hrow.drew 0 _ ?_)
      intro t ht
      simp only [ints_length, List.length_take] at ht
      rw [List.getElem?_append_left (by rw [ints_length]; omega)]
      simp only [ints, List.getElem?_map, List.getElem?_take, Nat.zero_add]
      rw [if_pos (by omega)]
    have hr := Lib.run_append_grow_zeros (P := Try.prog) w 22 3 ty 3 i0 (.int .i64 0) .i64 .i64 Try.underlying22 Try.underlying3 hi hz0 (some ⟨g, 0, none⟩) i cap (ints (xs.take i)) hf (n + 2 - i) (by omega) (by omega) (by omega) (by omega) (by rw [hz2]; omega) (growslice_fits (by omega) (by rw [hz2]; omega))
    rw [show (n : Int) + 2 - i = ((n + 2 - i : Nat) : Int) by omega, hr, hW1, hL0]
    have e : i + (n + 2 - i) = n + 2 := by omega
    have e3 : ∀ (l : List Value) (z : Value) (q r : Nat), l.toArray ++ Array.replicate q z ++ Array.replicate r z = (l ++ List.replicate q z ++ List.replicate r z).toArray := by
      intro l z q r
      apply Array.ext'
      simp
    simp only [e, hzc, ← hC, e3]
  have hr1 : RowAt W1 3 w.heap.size L0 := by rw [hW1]; exact heap_alloc_new w.drew _
  have hv1 : Blk W1 gv #[.int .i64 k, .int .i64 m] 3 := by rw [hW1]; exact hv.drew.alloc _
  have hrow1 : RowAt W1 3 g (ints xs ++ rest) := by rw [hW1]; exact (Below.heap_alloc _ _ _ hrow.lt).trans hrow
  have hk1 : Keeps (fun b => (Value.slice (some ⟨g, 0, none⟩) n cap).ownBlock = some b) w W1 := by rw [hW1]; exact (Keeps.refl _ w).drew.alloc _
  obtain ⟨L1, hL1⟩ : ∃ L1 : List Value, L1 = L0.take i ++ [.int .i64 k, .int .i64 m] ++ L0.drop (i + 2) := ⟨_, rfl⟩
  have hl1 : L1.length = C := by rw [hL1]; simp; omega
  obtain ⟨W2, hW2⟩ : ∃ W2, W2 = W1.setRow w.heap.size L1.toArray := ⟨_, rfl⟩
  have hc1 : ∀ ty, (Builtin.copy_ #[22, 22] ty #[.slice (some ⟨w.heap.size, i, none⟩) (n + 2 - i) (C - i), .slice (some ⟨gv, 0, none⟩) 2 2]).run Try.prog W1 = .ok (.int .i64 2) W2 := by
    intro ty
    rw [hW2, hL1]
    exact run_copy_row W1 _ ty _ i0 Try.underlying22 hi hz1 w.heap.size i (n + 2 - i) (C - i) L0 hr1 _ 2 2 [.int .i64 k, .int .i64 m] rfl ⟨_, _, rfl, fun _ => ⟨_, rfl, hv1.news⟩⟩ (by simp [Value.oneCell']) (Nat.min_eq_left (by omega)) (by omega)
  have hr2 : RowAt W2 3 w.heap.size L1 := by rw [hW2]; exact hr1.set _
  have hk2 : Keeps (fun b => b = w.heap.size) W1 W2 := by rw [hW2]; exact keeps_setRow _ _ _
  have hrow2 : RowAt W2 3 g (ints xs ++ rest) := hk2.heapSome (by have := hrow.lt; omega) hrow1
  obtain ⟨L2, hL2⟩ : ∃ L2 : List Value, L2 = L1.take (i + 2) ++ ints (xs.drop i) ++ L1.drop (i + 2 + (n - i)) := ⟨_, rfl⟩
  have hl2 : L2.length = C := by rw [hL2]; simp [ints]; omega
  obtain ⟨W3, hW3⟩ : ∃ W3, W3 = W2.drew.setRow w.heap.size L2.toArray := ⟨_, rfl⟩
  have hc2 : ∀ ty, (Builtin.copy_ #[22, 22] ty #[.slice (some ⟨w.heap.size, i + 2, none⟩) (n - i) (C - (i + 2)), .slice (some ⟨g, i, none⟩) (n - i) (cap - i)]).run Try.prog W2.drew = .ok (.int .i64 ((n - i : Nat) : Int)) W3 := by
    intro ty
    rw [hW3, hL2]
    refine run_copy_row W2.drew _ ty _ i0 Try.underlying22 hi hz1 w.heap.size (i + 2) (n - i) (C - (i + 2)) L1 hr2.drew _ (n - i) (n - i) (ints (xs.drop i)) (by simp [ints]; omega) ⟨_, _, rfl, fun _ => ⟨_, rfl, row_news hrow2.drew i _ ?_⟩⟩ (ints_one _) (Nat.min_eq_left (by omega)) (by omega)
    intro t ht
    simp only [ints_length, List.length_drop] at ht
    rw [List.getElem?_append_left (by rw [ints_length]; omega)]
    simp [ints]
  have fin : InsP w (.slice (some ⟨g, 0, none⟩) n cap) n i xs k m (.returned (.slice (some ⟨w.heap.size, 0, none⟩) (n + 2) C)) W3 := by
    have hr3 : RowAt W3 3 w.heap.size L2 := by rw [hW3]; exact hr2.drew.set _
    have ho := hr3.own (n := n + 2) (cap := C) hCge hCle hl2
    have he : L2.take (n + 2) = ints (xs.take i ++ [k, m] ++ xs.drop i) := by
      have e1 : L1.take (i + 2) = ints (xs.take i ++ [k, m]) := by
        rw [hL1, List.take_left' (by simp; omega), hL0, List.append_assoc, List.take_left' (by simp [ints]; omega), ints_append]
        rfl
      rw [hL2, e1, ← ints_append, List.take_left' (by simp [ints]; omega)]
    rw [he] at ho
    refine ⟨_, rfl, ho, .inr ⟨_, rfl, Nat.le_refl _⟩, ?_⟩
    have hk3 : Keeps (fun b => b = w.heap.size) W2 W3 := by rw [hW3]; exact (Keeps.refl _ W2).drew.trans' (keeps_setRow _ _ _)
    exact (hk1.trans hk2 (by rintro b rfl; exact .inr (Nat.le_refl _))).trans hk3 (by rintro b rfl; exact .inr (Nat.le_refl _))
  have HAP := Lib.hid hap
  have HC1 := Lib.hid hc1
  have HC2 := Lib.hid hc2
  have HFIN := Lib.hid fin
  have e1 : ((i : Int) == n) = false := by simp; omega
  have e2 : (n : Int) + 2 > cap := by omega
  have hic : i ≤ cap := by omega
  clear hap hc1 hc2 fin hr1 hl1 hk1 hrow hrl h hxl hxl' hL1 hL2 hL0 hl0 hl2 hr2 hk2 hrow1 hrow2 hv1 hv hzc hW1 hW2 hW3 hC hcm hCle
  go_enter Try.func53, Try.ntmps53
  go_wp2_with (first | (at_builtin; refine wpList_append2 _ rfl _ _ 22 3 rfl (.slice (some ⟨g, 0, none⟩) i cap) (.int .i64 ((n : Int) + 2 - i)) rfl rfl HAP.out ?_) | (refine wpList_copy2 _ rfl _ _ 22 22 rfl (.slice (some ⟨w.heap.size, i, none⟩) (n + 2 - i) (C - i)) (.slice (some ⟨gv, 0, none⟩) 2 2) rfl rfl HC1.out ?_))
  have hwr : IntKind.i64.wrap ((i : Int) + 2) = (i : Int) + 2 := by rw [IntKind.wrap_i64]; omega
  have hp0 : (0 : Int) ≤ (i : Int) + 2 := by omega
  have hp1 : (i : Int) + 2 ≤ ((n + 2 : Nat) : Int) := by omega
  have hp2 : ((i : Int) + 2).toNat = i + 2 := by omega
  have hs1 := fun W => run_low W w.heap.size 0 (n + 2) C (i + 2) ((i : Int) + 2) (by omega) (by omega) (by omega) (by omega)
  have hs2 := fun W => run_low W g 0 n cap i (i : Int) rfl (by omega) (by omega) (by omega)
  simp only [Nat.zero_add] at hs1 hs2
  go_still_tail 8, (by kernel_rfl)
  change wpList _ _ _ _ _ W2.drew
  refine wpList_copy2 _ rfl _ _ 22 22 rfl (.slice (some ⟨w.heap.size, i + 2, none⟩) (n - i) (C - (i + 2))) (.slice (some ⟨g, i, none⟩) (n - i) (cap - i)) rfl rfl HC2.out ?_
  go_wp2_with fail
  go_ret
  exact HFIN.out

theorem overlaps_no (W : World) (gv g n c lb cb i : Nat) (cur : List Value) (k m : Value) (hv : Blk W gv #[k, m] 3) (hr : RowAt W 3 g cur) (hl : 0 < cur.length) (hne : gv ≠ g) :
    (callFunc 54 #[.slice (some ⟨gv, 0, none⟩) 2 2, .slice (some ⟨g, i, none⟩) lb cb]).run Try.prog W = .ok (.value (.bool false)) W := by
  obtain ⟨i0, hi, hz0, hz1, hz2⟩ := info_parts infoInt
  have hz : ∀ w, (Go.sizeOf 3).run Try.prog w = .ok 1 w := by
    intro w
    simp [sizeOf, typeInfo, hi, hz1]
  have hsa : W.shape? gv = some (3, 2) := by unfold Blk at hv; simp [World.shape?, hv]
  have hsb : W.shape? g = some (3, cur.length) := by unfold RowAt at hr; simp [World.shape?, hr]
  rw [run_callFunc_extern Try.func54 (by kernel_rfl) (by kernel_rfl) (by kernel_rfl) (e := Extern.SlicesOverlaps.overlaps #[22, 22] #[4]) (by kernel_rfl),
    Lib.run_overlaps_apart W 22 4 3 Try.underlying22 1 hz ⟨gv, 0, none⟩ ⟨g, i, none⟩ 2 2 lb cb hne 3 3 2 cur.length hsa hsb (by omega) (hv.frozen 0) (hv.frozen 2)]
  rfl

set_option maxHeartbeats 1600000 in
theorem sl_insert_room {w : World} {g n cap i : Nat} {xs : List Int} (h : Own w 3 1 (.slice (some ⟨g, 0, none⟩) n cap) n (ints xs)) (gv : Nat) (k m : Int) (hv : Blk w gv #[.int .i64 k, .int .i64 m] 3) (hne : gv ≠ g) (hn : n ≤ 1099511627776) (hin : i < n) (hgr : n + 2 ≤ cap) :
    Calls Try.prog 53 #[.slice (some ⟨g, 0, none⟩) n cap, .int .i64 i, .slice (some ⟨gv, 0, none⟩) 2 2] w (InsP w (.slice (some ⟨g, 0, none⟩) n cap) n i xs k m) := by
  obtain ⟨i0, hi, hz0, hz1, hz2⟩ := info_parts infoInt
  obtain ⟨_, hnc, hcm, hxl, rest, hrow, hrl⟩ := own_row h
  have hxl' : xs.length = n := by simpa [ints] using hxl
  have hcm' : cap ≤ 9223372036854775807 := by simp only [maxLen] at hcm; omega
  obtain ⟨L1, hL1⟩ : ∃ L1 : List Value, L1 = (ints xs ++ rest).take (i + 2) ++ ints (xs.drop i) ++ (ints xs ++ rest).drop (i + 2 + (n - i)) := ⟨_, rfl⟩
  have hl1 : L1.length = cap := by
    rw [hL1]
    simp only [List.length_append, List.length_take, List.length_drop, ints_length] at hrl ⊢
    omega
  obtain ⟨W1, hW1⟩ : ∃ W1, W1 = w.drew.setRow g L1.toArray := ⟨_, rfl⟩
  have hc1 : ∀ ty, (Builtin.copy_ #[22, 22] ty #[.slice (some ⟨g, i + 2, none⟩) (n - i) (cap - (i + 2)), .slice (some ⟨g, i, none⟩) (n + 2 - i) (cap - i)]).run Try.prog w.drew = .ok (.int .i64 ((n - i : Nat) : Int)) W1 := by
    intro ty
    rw [hW1, hL1]
    refine run_copy_row w.drew _ ty _ i0 Try.underlying22 hi hz1 g (i + 2) (n - i) (cap - (i + 2)) _ hrow.drew _ (n + 2 - i) (n - i) (ints (xs.drop i)) (by simp [ints]; omega) ⟨_, _, rfl, fun _ => ⟨_, rfl, row_news hrow.drew i _ ?_⟩⟩ (ints_one _) (by show min (n + 2 - i) (n - i) = n - i; omega) (by omega)
    intro t ht
    simp only [ints_length, List.length_drop] at ht
    rw [List.getElem?_append_left (by rw [ints_length]; omega)]
    simp [ints]
  have hr1 : RowAt W1 3 g L1 := by rw [hW1]; exact hrow.drew.set _
  have hk1 : Keeps (fun b => b = g) w W1 := by rw [hW1]; exact (Keeps.refl _ w).drew.trans' (keeps_setRow _ _ _)
  have hv1 : Blk W1 gv #[.int .i64 k, .int .i64 m] 3 := hv.keeps hk1 hne
  obtain ⟨L2, hL2⟩ : ∃ L2 : List Value, L2 = L1.take i ++ [.int .i64 k, .int .i64 m] ++ L1.drop (i + 2) := ⟨_, rfl⟩
  have hl2 : L2.length = cap := by rw [hL2]; simp; omega
  obtain ⟨W2, hW2⟩ : ∃ W2, W2 = W1.setRow g L2.toArray := ⟨_, rfl⟩
  have hc2 : ∀ ty, (Builtin.copy_ #[22, 22] ty #[.slice (some ⟨g, i, none⟩) (n + 2 - i) (cap - i), .slice (some ⟨gv, 0, none⟩) 2 2]).run Try.prog W1 = .ok (.int .i64 2) W2 := by
    intro ty
    rw [hW2, hL2]
    exact run_copy_row W1 _ ty _ i0 Try.underlying22 hi hz1 g i (n + 2 - i) (cap - i) L1 hr1 _ 2 2 [.int .i64 k, .int .i64 m] rfl ⟨_, _, rfl, fun _ => ⟨_, rfl, hv1.news⟩⟩ (by simp [Value.oneCell']) (Nat.min_eq_left (by omega)) (by omega)
  have fin : InsP w (.slice (some ⟨g, 0, none⟩) n cap) n i xs k m (.returned (.slice (some ⟨g, 0, none⟩) (n + 2) cap)) W2 := by
    have hr2 : RowAt W2 3 g L2 := by rw [hW2]; exact hr1.set _
    have ho := hr2.own (n := n + 2) (cap := cap) hgr hcm hl2
    have he : L2.take (n + 2) = ints (xs.take i ++ [k, m] ++ xs.drop i) := by
      have e0 : (ints xs ++ rest).take (i + 2) = (ints xs ++ rest).take i ++ ((ints xs ++ rest).drop i).take 2 := List.take_add ..
      have e1 : L1.take i = ints (xs.take i) := by
        rw [hL1, e0, List.append_assoc, List.append_assoc, List.take_left' (by simp only [List.length_take]; omega), List.take_append_of_le_length (by rw [ints_length]; omega)]
        simp [ints, List.map_take]
      have e2 : L1.drop (i + 2) = ints (xs.drop i) ++ (ints xs ++ rest).drop (i + 2 + (n - i)) := by
        rw [hL1, List.append_assoc, List.drop_left' (by simp only [List.length_take]; omega)]
      have e3 : ints (xs.take i) ++ [.int .i64 k, .int .i64 m] ++ (ints (xs.drop i) ++ (ints xs ++ rest).drop (i + 2 + (n - i))) = ints (xs.take i ++ [k, m] ++ xs.drop i) ++ (ints xs ++ rest).drop (i + 2 + (n - i)) := by
        simp [ints]
      rw [hL2, e1, e2, e3, List.take_left' (by simp [ints]; omega)]
    rw [he] at ho
    refine ⟨_, rfl, ho, .inl rfl, ?_⟩
    have hk2 : Keeps (fun b => b = g) W1 W2 := by rw [hW2]; exact keeps_setRow _ _ _
    exact (hk1.trans' hk2).mono (by rintro b rfl; rfl)
  have hov := fun lb cb => overlaps_no w gv g n cap lb cb (i + 2) _ (.int .i64 k) (.int .i64 m) hv hrow (by omega) hne
  have HOV := Lib.hid hov
  have HC1 := Lib.hid hc1
  have HC2 := Lib.hid hc2
  have HFIN := Lib.hid fin
  have e1 : ((i : Int) == n) = false := by simp; omega
  have e2 : ¬ (n : Int) + 2 > cap := by omega
  have hic : i ≤ cap := by omega
  clear hc1 hc2 fin hr1 hl1 hk1 hrow hrl h hxl hxl' hL1 hL2 hl2 hv1 hv hW1 hW2 hcm hov
  go_enter Try.func53, Try.ntmps53
  have hov := HOV.out
  go_wp2_with fail
  have hwr : IntKind.i64.wrap ((i : Int) + 2) = (i : Int) + 2 := by rw [IntKind.wrap_i64]; omega
  have hp0 : (0 : Int) ≤ (i : Int) + 2 := by omega
  have hs1 := fun W => run_low W g 0 (n + 2) cap (i + 2) ((i : Int) + 2) (by omega) (by omega) (by omega) (by omega)
  have hs2 := fun W => run_low W g 0 (n + 2) cap i (i : Int) rfl (by omega) (by omega) (by omega)
  simp only [Nat.zero_add] at hs1 hs2
  go_still_tail 8, (by kernel_rfl)
  change wpList _ _ _ _ _ w.drew
  refine wpList_copy2 _ rfl _ _ 22 22 rfl (.slice (some ⟨g, i + 2, none⟩) (n - i) (cap - (i + 2))) (.slice (some ⟨g, i, none⟩) (n + 2 - i) (cap - i)) rfl rfl HC1.out ?_
  go_wp2_with (refine wpList_copy2 _ rfl _ _ 22 22 rfl (.slice (some ⟨g, i, none⟩) (n + 2 - i) (cap - i)) (.slice (some ⟨gv, 0, none⟩) 2 2) rfl rfl HC2.out ?_)
  go_ret
  exact HFIN.out

/-- Insert of two numbers, whatever the room. -/
theorem sl_insert {w : World} {v : Value} {n i : Nat} {xs : List Int} (h : Own w 3 1 v n (ints xs)) (gv : Nat) (k m : Int) (hv : Blk w gv #[.int .i64 k, .int .i64 m] 3) (hne : v.ownBlock ≠ some gv) (hn : n ≤ 1099511627776) (hin : i ≤ n) :
    Calls Try.prog 53 #[v, .int .i64 i, .slice (some ⟨gv, 0, none⟩) 2 2] w (InsP w v n i xs k m) := by
  by_cases h0 : i = n
  · subst h0
    exact sl_insert_end h gv k m hv hn
  · obtain ⟨g, c, rfl, hc1, hc2⟩ := own_open h (by omega)
    by_cases hr : n + 2 ≤ c
    · exact sl_insert_room h gv k m hv (fun e => hne (by simp [Value.ownBlock, e])) hn (by omega) hr
    · exact sl_insert_grow h gv k m hv hn (by omega) (by omega)
end Go.Proofs.Ytaoagaokocnehaa
/- Package objs: the walks of pairs, find, has, put. -/
namespace Go.Proofs.Ytaoagaokocnehaa
set_option linter.unusedVariables false
set_option maxRecDepth 100000
set_option linter.unusedSimpArgs false
open Go.RowKit

theorem drop_cons2 (xs : List Int) (j : Nat) (h : j + 1 < xs.length) : xs.drop j = xs.getD j 0 :: xs.getD (j + 1) 0 :: xs.drop (j + 2) := by
  rw [List.drop_eq_getElem_cons (by omega), List.drop_eq_getElem_cons (by omega)]
  simp [List.getD_eq_getElem?_getD, List.getElem?_eq_getElem (show j < xs.length by omega), List.getElem?_eq_getElem h]
theorem drop_cons1 (xs : List Int) (j : Nat) (h : j + 1 = xs.length) : xs.drop j = [xs.getD j 0] := by
  rw [List.drop_eq_getElem_cons (by omega), List.drop_eq_nil_of_le (by omega)]
  simp [List.getD_eq_getElem?_getD, List.getElem?_eq_getElem (show j < xs.length by omega)]

set_option maxHeartbeats 3200000 in
theorem o_pairs_any {w : World} {v : Value} {xs : List Int} (hx : Rd w v xs) (least : Int) :
    Calls Try.prog 38 #[v, .int .i64 least] w fun e w' => e = .returned (.bool (pairsB xs least)) ∧ w' = w := by
  obtain ⟨n, a, c, f, rfl, hn, hnc, hcm, hf, hv⟩ := hx.view
  clear hx
  have hl' : n ≤ 9223372036854775807 := by omega
  have HV := Lib.hid hv
  have HN := Lib.hid hn
  have HF := Lib.hid hf
  clear hv hn hf
  go_enter Try.func38, Try.ntmps38
  go_wp2_with fail
  go_loop [5, 6] (fun la i => ∃ (j : Nat) (last : Int), j ≤ n + 1 ∧ ((j : Int) ≤ 2 * last + 2 ∧ last ≤ 255) ∧ i = .int .i64 j ∧ la = .int .i64 last ∧ pairsGo least (-1) xs = pairsGo least last (xs.drop j)) (fun _ i => n + 1 - (intOf i).toNat)
  case atStart => exact ⟨0, -1, by omega, by omega, rfl, rfl, rfl⟩
  case round =>
    obtain ⟨j, last, hj, ⟨hj2, hla⟩, rfl, rfl, hp⟩ := hrel
    by_cases hlt : j + 1 < n
    · obtain ⟨b, o, rfl, hb, hc⟩ := HV.out (by omega)
      have h1 := hc j (by omega)
      have h2 := hc (j + 1) hlt
      have hd := drop_cons2 xs j (by rw [← HN.out]; exact hlt)
      rw [← HF.out, ← HF.out] at hd
      rw [hd] at hp
      clear hc hd
      generalize f j = k at *
      generalize f (j + 1) = x at *
      have hst : pairsGo least last (k :: x :: xs.drop (j + 2)) = if k ≤ last ∨ 255 < k ∨ x < least ∨ 1099511627776 < x then false else pairsGo least k (xs.drop (j + 2)) := by rw [pairsGo]
      rw [hst] at hp
      clear hst
      by_cases hbad : k ≤ last ∨ 255 < k ∨ x < least ∨ 1099511627776 < x
      · rw [if_pos hbad] at hp
        have fin : Ending.returned (.bool false) = .returned (.bool (pairsB xs least)) := by
          unfold pairsB
          rw [hp]; rfl
        have HT := Lib.hid fin
        clear fin hp
        have hb4 : k ≤ last ∨ (¬ k ≤ last ∧ 255 < k) ∨ (¬ k ≤ last ∧ ¬ 255 < k ∧ x < least) ∨ (¬ k ≤ last ∧ ¬ 255 < k ∧ ¬ x < least ∧ 1099511627776 < x) := by omega
        clear hbad
        rcases hb4 with g1 | ⟨g1, g2⟩ | ⟨g1, g2, g3⟩ | ⟨g1, g2, g3, g4⟩
        all_goals
          go_wp2_with fail
          go_ret
          exact ⟨HT.out, rfl⟩
      · rw [if_neg hbad] at hp
        have HP := Lib.hid hp
        clear hp
        have g1 : ¬ k ≤ last := by omega
        have g2 : ¬ 255 < k := by omega
        have g3 : ¬ x < least := by omega
        have g4 : ¬ 1099511627776 < x := by omega
        clear hbad
        go_wp2_with fail
        go_round
        case rel => exact ⟨j + 2, k, by omega, by omega, by go_num, rfl, HP.out⟩
        case measure => simp [intOf]; omega
    · have hp2 : pairsGo least (-1) xs = true := by
        rw [hp]
        by_cases h0 : j + 1 = n
        · rw [drop_cons1 xs j (by rw [← HN.out]; exact h0)]
          unfold pairsGo
          rfl
        · rw [List.drop_eq_nil_of_le (by rw [← HN.out]; omega)]
          unfold pairsGo
          rfl
      have fin : Ending.returned (.bool (decide (n % 2 = 0) && decide (n ≤ 128))) = .returned (.bool (pairsB xs least)) := by
        unfold pairsB
        rw [hp2, ← HN.out]
        rfl
      have HT := Lib.hid fin
      clear fin hp hp2
      by_cases he : n % 2 = 0
      · have he' : (((n : Int) % 2) == 0) = true := by simp; omega
        by_cases h128 : n ≤ 128
        · go_wp2_with fail
          go_ret
          exact ⟨by rw [← HT.out, decide_eq_true he, decide_eq_true h128]; first | rfl | (simp; omega), rfl⟩
        · go_wp2_with fail
          go_ret
          exact ⟨by rw [← HT.out, decide_eq_true he, decide_eq_false h128]; first | rfl | (simp; omega), rfl⟩
      · have he' : (((n : Int) % 2) == 0) = false := by simp; omega
        go_wp2_with fail
        go_ret
        exact ⟨by rw [← HT.out, decide_eq_false he]; first | rfl | simp, rfl⟩
theorem o_pairs {w : World} {v : Value} {xs : List Int} (hx : Rd w v xs) (_ : xs.length ≤ 17592186044416) (least : Int) :
    Calls Try.prog 38 #[v, .int .i64 least] w fun e w' => e = .returned (.bool (pairsB xs least)) ∧ w' = w := o_pairs_any hx least

/-- What find tells. -/
def FindP (w : World) (i : Nat) (is : Bool) (e : Ending) (w' : World) : Prop := e = .returned (.tuple #[.int .i64 i, .bool is]) ∧ ∃ q, w' = w.drewN q

set_option maxHeartbeats 3200000 in
theorem o_find {w : World} {v : Value} {xs : List Int} (hx : Rd w v xs) (hl : xs.length ≤ 17592186044416) (key : Int) :
    Calls Try.prog 45 #[v, .int .i64 key] w (FindP w (findI xs key) (foundB xs key)) := by
  obtain ⟨n, a, c, f, rfl, hn, hnc, hcm, hf, hv⟩ := hx.view
  clear hx
  have hl' : n ≤ 17592186044416 := by omega
  have HV := Lib.hid hv
  have HN := Lib.hid hn
  have HF := Lib.hid hf
  clear hv hn hf hl
  go_enter Try.func45, Try.ntmps45
  go_wp2_with fail
  go_loop [6] (fun i => ∃ j : Nat, j ≤ n + 1 ∧ i = .int .i64 j ∧ findI xs key = j + findI (xs.drop j) key) (fun i => n + 1 - (intOf i).toNat)
  case atStart => exact ⟨0, by omega, rfl, by simp⟩
  case round =>
    obtain ⟨j, hj, rfl, hp⟩ := hrel
    by_cases hlt : j < n
    · obtain ⟨b, o, rfl, hb, hc⟩ := HV.out (by omega)
      have h1 := hc j hlt
      obtain ⟨k, hk⟩ : ∃ k, k = f j := ⟨_, rfl⟩
      rw [← hk] at h1
      have hd : findI (xs.drop j) key = if k < key then 2 + findI (xs.drop (j + 2)) key else 0 := by
        by_cases h2 : j + 1 < n
        · rw [drop_cons2 xs j (by rw [← HN.out]; exact h2), ← HF.out, ← hk]
          rfl
        · rw [drop_cons1 xs j (by rw [← HN.out]; omega), ← HF.out, ← hk, List.drop_eq_nil_of_le (by rw [← HN.out]; omega)]
          rfl
      rw [hd] at hp
      have HK := Lib.hid hk
      clear hc hd hk
      by_cases hkk : k < key
      · rw [if_pos hkk] at hp
        have HP := Lib.hid hp
        clear hp
        go_wp2_with fail
        go_round
        case rel => exact ⟨j + 2, by omega, by go_num, by rw [HP.out]; omega⟩
        case measure => simp [intOf]; omega
      · rw [if_neg hkk] at hp
        by_cases he : k = key
        · have fin : ∀ q, FindP w (findI xs key) (foundB xs key) (.returned (.tuple #[.int .i64 j, .bool true])) (w.drewN q) := by
            intro q
            have h1 : findI xs key = j := by omega
            have h2 : foundB xs key = true := by
              unfold foundB
              rw [h1, ← HN.out, ← HF.out, ← HK.out, he]
              simp [hlt]
            rw [h1, h2]
            exact ⟨rfl, q, rfl⟩
          have HT := Lib.hid fin
          have he' : (k == key) = true := by simpa using he
          clear fin hp he
          go_wp2_with fail
          go_quiet (fail)
          go_wp2_with fail
          go_ret2
          exact HT.out _
        · have fin : ∀ q, FindP w (findI xs key) (foundB xs key) (.returned (.tuple #[.int .i64 j, .bool false])) (w.drewN q) := by
            intro q
            have h1 : findI xs key = j := by omega
            have h2 : foundB xs key = false := by
              unfold foundB
              rw [h1, ← HN.out, ← HF.out, ← HK.out]
              simp [he]
            rw [h1, h2]
            exact ⟨rfl, q, rfl⟩
          have HT := Lib.hid fin
          have he' : (k == key) = false := by simpa using he
          clear fin hp he
          go_wp2_with fail
          go_quiet (fail)
          go_wp2_with fail
          go_ret2
          exact HT.out _
    · have fin : ∀ q, FindP w (findI xs key) (foundB xs key) (.returned (.tuple #[.int .i64 j, .bool false])) (w.drewN q) := by
        intro q
        rw [List.drop_eq_nil_of_le (by rw [← HN.out]; omega)] at hp
        have h1 : findI xs key = j := by rw [hp]; rfl
        have h2 : foundB xs key = false := by
          unfold foundB
          rw [h1, ← HN.out]
          simp [hlt]
        rw [h1, h2]
        exact ⟨rfl, q, rfl⟩
      have HT := Lib.hid fin
      have hd : decide ((j : Int) < n) = false := by simp; omega
      clear fin hp
      go_wp2_with fail
      go_quiet (fail)
      go_wp2_with fail
      go_ret2
      exact HT.out _
end Go.Proofs.Ytaoagaokocnehaa
/- Package objs: the walks of has, put, May, Fits, Same. -/
namespace Go.Proofs.Ytaoagaokocnehaa
set_option linter.unusedVariables false
set_option maxRecDepth 100000
set_option linter.unusedSimpArgs false
open Go.RowKit

theorem below_drewN (w : World) (q : Nat) : Below w.heap.size w (w.drewN q) := ⟨rfl, rfl, rfl, Nat.le_refl _, fun _ _ => rfl⟩
theorem below_of_drewN {w w' : World} {q : Nat} (h : Below (w.drewN q).heap.size (w.drewN q) w') : Below w.heap.size w w' := ⟨h.os, h.tape, h.output, h.size, h.block⟩
theorem found_lt {xs : List Int} {key : Int} (h : foundB xs key = true) (he : xs.length % 2 = 0) : findI xs key + 1 < xs.length := by
  unfold foundB at h
  simp only [Bool.and_eq_true, decide_eq_true_eq] at h
  have := findI_even xs key
  omega

set_option maxHeartbeats 800000 in
theorem o_has {w : World} {v : Value} {xs : List Int} (hx : Rd w v xs) (hl : xs.length ≤ 17592186044416) (he : xs.length % 2 = 0) (key : Int) :
    Calls Try.prog 44 #[v, .int .i64 key] w fun e w' => e = .returned (.int .i64 (hasI xs key)) ∧ ∃ q, w' = w.drewN q := by
  have HF := Lib.hid (o_find hx hl key)
  have HX := Lib.hid hx
  obtain ⟨a, c, rfl, _⟩ := hx
  by_cases hf : foundB xs key = true
  · have hh : hasI xs key = xs.getD (findI xs key + 1) 0 := by unfold hasI; rw [if_pos hf]
    have hlt := found_lt hf he
    rw [hh]
    rw [hf] at HF
    obtain ⟨j, hj⟩ : ∃ j, j = findI xs key := ⟨_, rfl⟩
    rw [← hj] at HF hlt ⊢
    obtain ⟨n, a', c', f, e0, hn, hnc, hcm, hfn, hv⟩ := HX.out.view
    simp at e0
    obtain ⟨rfl, hnn, rfl⟩ := e0
    obtain ⟨b, o, rfl, hb, hc⟩ := hv (by omega)
    have h2 := hc (j + 1) (by omega)
    rw [hfn] at h2
    generalize xs.getD (j + 1) 0 = x at *
    generalize xs.length = m at *
    clear hc hv hfn hj hh hn hnn HX
    go_enter Try.func44, Try.ntmps44
    go_wp2_with fail
    refine HF.out.mono ?_
    rintro e w1 ⟨rfl, q, rfl⟩
    go_wp2_with fail
    go_ret
    exact ⟨rfl, q, rfl⟩
  · have hf' : foundB xs key = false := by simpa using hf
    have hh : hasI xs key = -1 := by unfold hasI; rw [if_neg hf]
    rw [hh]
    rw [hf'] at HF
    generalize findI xs key = j at *
    clear hh hf hf' HX
    go_enter Try.func44, Try.ntmps44
    go_wp2_with fail
    refine HF.out.mono ?_
    rintro e w1 ⟨rfl, q, rfl⟩
    go_wp2_with fail
    go_ret
    exact ⟨rfl, q, rfl⟩

/-- Of a slice: its block, if it has one, lies from B on. -/
def Fresh (B : Nat) (v : Value) : Prop := ∀ k, v.ownBlock = some k → B ≤ k
theorem fresh_some {B g o n c : Nat} (h : B ≤ g) : Fresh B (.slice (some ⟨g, o, none⟩) n c) := by
  intro k hk
  simp only [Value.ownBlock, Option.some.injEq] at hk
  omega
theorem fresh_none {B n c : Nat} : Fresh B (.slice none n c) := by
  intro k hk
  simp [Value.ownBlock] at hk
theorem Fresh.mono {A B : Nat} {v : Value} (h : Fresh B v) (hb : A ≤ B) : Fresh A v := fun k hk => Nat.le_trans hb (h k hk)
/-- What put tells. -/
def PutP (w : World) (xs : List Int) (ok : Bool) (e : Ending) (w' : World) : Prop := ∃ v', e = .returned (.tuple #[v', .bool ok]) ∧ Rd w' v' xs ∧ (ok = true → Own w' 3 1 v' xs.length (ints xs) ∧ Fresh w.heap.size v') ∧ Below w.heap.size w w'

theorem putp_of {w w1 : World} {v : Value} {xs : List Int} {n : Nat} (h : Own w1 3 1 v n (ints xs)) (hb : Below w.heap.size w w1) (hfr : Fresh w.heap.size v) : PutP w xs true (.returned (.tuple #[v, .bool true])) w1 := by
  have hn : xs.length = n := by have := h.1; simpa [ints] using this
  subst hn
  exact ⟨v, rfl, own_rd h, fun _ => ⟨h, hfr⟩, hb⟩

set_option maxRecDepth 100000 in
set_option maxHeartbeats 1600000 in
theorem o_put {w : World} {v : Value} {xs : List Int} (hx : Rd w v xs) (hl : xs.length ≤ 1099511627776) (he : xs.length % 2 = 0) (key n : Int) :
    Calls Try.prog 46 #[v, .int .i64 key, .int .i64 n] w (PutP w (putL xs key n) (putB xs key)) := by
  have HF := Lib.hid (o_find hx (by omega) key)
  have HC := fun q => Lib.hid (sl_clone (hx.drewN q) (by omega))
  have HX := Lib.hid hx
  obtain ⟨a, c, rfl, _⟩ := hx
  by_cases hf : foundB xs key = true
  · have hp : putL xs key n = xs.set (findI xs key + 1) n := by unfold putL; rw [if_pos hf]
    have hb : putB xs key = true := by unfold putB; rw [hf]; rfl
    have hlt := found_lt hf he
    rw [hp, hb]
    rw [hf] at HF
    generalize findI xs key = j at *
    obtain ⟨m, hm⟩ : ∃ m, m = xs.length := ⟨_, rfl⟩
    have HM := Lib.hid hm
    rw [← hm] at hlt hl HF HC ⊢
    clear hp hb hf he HX hm
    go_enter Try.func46, Try.ntmps46
    go_wp2_with fail
    refine HF.out.mono ?_
    rintro e w1 ⟨rfl, q, rfl⟩
    go_wp2_with fail
    refine (HC q).out.mono ?_
    rintro e w2 ⟨v2, rfl, hown, hfr, hb2⟩
    replace hb2 := below_of_drewN hb2
    obtain ⟨g, c2, rfl, hc1, hc2⟩ := own_open hown (by rw [← HM.out]; omega)
    have hcell := World.ownsRow.cellAt hown (j + 1) (by rw [← HM.out]; omega)
    rw [ints_get _ _ (by rw [← HM.out]; omega)] at hcell
    have hfz := World.ownsRow.frozenAt hown (j + 1)
    have hst := (World.ownsRow.stored hown (j + 1) (.int .i64 n)).1
    rw [ints_set] at hst
    have hge : w.heap.size ≤ g := hfr g rfl
    have fin := putp_of hst (w := w) (hb2.setCell (p := ⟨g, j + 1, none⟩) hge (.int .i64 n)) (fresh_some hge)
    have HT := Lib.hid fin
    generalize xs.getD (j + 1) 0 = x at hcell
    rw [← HM.out] at hc1 ⊢
    simp only [maxLen] at hc2
    clear fin hst hown hfr hb2 HC HF
    have hcc : m ≤ 9223372036854775807 := by omega
    go_wp2_with fail
    go_ret2
    exact HM.out ▸ HT.out
  · have hf' : foundB xs key = false := by simpa using hf
    rw [hf'] at HF
    by_cases h128 : 128 ≤ xs.length
    · have hp : putL xs key n = xs := by unfold putL; rw [if_neg hf, if_pos h128]
      have hb : putB xs key = false := by unfold putB; rw [hf', decide_eq_false (by omega)]; rfl
      rw [hp, hb]
      have fin : ∀ q, PutP w xs false (.returned (.tuple #[.slice a xs.length c, .bool false])) (w.drewN q) := fun q => ⟨_, rfl, HX.out.drewN q, fun h => by simp at h, below_drewN w q⟩
      have HT := Lib.hid fin
      generalize findI xs key = j at *
      obtain ⟨m, hm⟩ : ∃ m, m = xs.length := ⟨_, rfl⟩
      rw [← hm] at h128 hl HF HT ⊢
      clear hp hb hf hf' he HX hm HC fin
      go_enter Try.func46, Try.ntmps46
      go_wp2_with fail
      refine HF.out.mono ?_
      rintro e w1 ⟨rfl, q, rfl⟩
      go_wp2_with fail
      go_ret2
      exact HT.out q
    · have hp : putL xs key n = xs.take (findI xs key) ++ [key, n] ++ xs.drop (findI xs key) := by unfold putL; rw [if_neg hf, if_neg h128]
      have hb : putB xs key = true := by unfold putB; rw [hf', decide_eq_true (by omega)]; rfl
      have hle := findI_le xs key he
      rw [hp, hb]
      generalize findI xs key = j at *
      obtain ⟨m, hm⟩ : ∃ m, m = xs.length := ⟨_, rfl⟩
      have HM := Lib.hid hm
      rw [← hm] at h128 hl hle HF HC ⊢
      have HL := Lib.hid hle
      clear hp hb hf hf' he HX hm hle
      go_enter Try.func46, Try.ntmps46
      go_wp2_with fail
      refine HF.out.mono ?_
      rintro e w1 ⟨rfl, q, rfl⟩
      go_wp2_with fail
      refine (HC q).out.mono ?_
      rintro e w2 ⟨v2, rfl, hown, hfr, hb2⟩
      replace hb2 := below_of_drewN hb2
      rw [← HM.out] at hown
      have HO := Lib.hid hown
      have HFR := Lib.hid hfr
      have HB := Lib.hid hb2
      clear hown hfr hb2 HC HF
      go_wp2_with fail
      refine (sl_insert (w := w2.alloc (.cells #[.int .i64 key, .int .i64 n] 3)) (v := v2) (n := m) (i := j) (xs := xs) (own_keeps (F := fun _ => False) HO.out ((Keeps.refl _ _).alloc _) (by simp)) w2.heap.size key n (Blk.new w2 _ _) (fun e => by have := own_lt HO.out e; omega) (by omega) HL.out).mono ?_
      rintro e w3 ⟨v3, rfl, hown3, hat, hk3⟩
      have fin : PutP w (xs.take j ++ [key, n] ++ xs.drop j) true (.returned (.tuple #[v3, .bool true])) w3 := by
        have b2 : Below w.heap.size w (w2.alloc (.cells #[.int .i64 key, .int .i64 n] 3)) := HB.out.alloc HB.out.size _
        refine putp_of hown3 ?_ ?_
        · exact b2.trans (hk3.below (fun k hk => HFR.out k hk) (by have := HB.out.size; rw [World.size_alloc]; omega))
        · intro k hk
          have hs := HB.out.size
          rcases hat with e | ⟨b, e, hb⟩
          · have := HFR.out k (e ▸ hk)
            simpa using this
          · rw [e] at hk
            simp only [Option.some.injEq] at hk
            rw [World.size_alloc] at hb
            omega
      have HT := Lib.hid fin
      clear fin hown3 hat hk3
      go_wp2_with fail
      go_ret2
      exact HT.out
end Go.Proofs.Ytaoagaokocnehaa
/- Package objs: the walks of May, Fits, Same, Start. -/
namespace Go.Proofs.Ytaoagaokocnehaa
set_option linter.unusedVariables false
set_option maxRecDepth 100000
set_option linter.unusedSimpArgs false
open Go.RowKit

theorem bool_ret {b c : Bool} (h : b = c) : Ending.returned (.bool b) = .returned (.bool c) := by rw [h]

set_option maxRecDepth 100000 in
set_option maxHeartbeats 3200000 in
theorem o_may_any {w : World} {vl : Value} (s : St) (hx : Rd w vl s.L) :
    Calls Try.prog 20 #[.agg #[.int .i64 s.kind, vl, .bool s.isSealed, .int .i64 s.to]] w (Tells w (mayB s)) := by
  obtain ⟨k, L, b, t⟩ := s
  simp only at hx ⊢
  have hW : Below w.heap.size w (w.alloc (.cells #[.int .i64 k, vl, .bool b, .int .i64 t] 24)) := (Below.refl _ w).alloc (Nat.le_refl _) _
  have hx1 := hx.alloc (.cells #[.int .i64 k, vl, .bool b, .int .i64 t] 24)
  have HC := Lib.hid (sl_contains hx1)
  have HP := Lib.hid (o_pairs_any hx1)
  obtain ⟨n, a, c, hvl, hn, hl'⟩ : ∃ n a c, vl = .slice a n c ∧ n = L.length ∧ n ≤ 9223372036854775807 := by
    obtain ⟨a, c, e, h1, h2, _⟩ := hx
    exact ⟨_, a, c, e, rfl, by omega⟩
  subst hvl
  have HN := Lib.hid hn
  clear hn hx
  have HW := Lib.hid hW
  clear hW hx1
  have hto : (t < 0 ∨ 3 ≤ t ∨ (b = false ∧ t ≠ 0)) ∨ (0 ≤ t ∧ t < 3 ∧ (b = true ∨ t = 0)) := by
    cases b <;> simp <;> omega
  rcases hto with hbad | ⟨t1, t2, t3⟩
  · have hm : mayB ⟨k, L, b, t⟩ = false := by unfold mayB; simp only; rw [if_pos hbad]
    rw [hm]
    clear hm HC HP
    have hb3 : t < 0 ∨ (¬ t < 0 ∧ 3 ≤ t) ∨ (¬ t < 0 ∧ ¬ 3 ≤ t ∧ b = false ∧ (t != 0) = true) := by
      rcases hbad with h | h | ⟨h1, h2⟩
      · exact .inl h
      · exact .inr (.inl ⟨by omega, h⟩)
      · by_cases g : t < 0
        · exact .inl g
        · by_cases g2 : 3 ≤ t
          · exact .inr (.inl ⟨g, g2⟩)
          · exact .inr (.inr ⟨g, g2, h1, by simpa using h2⟩)
    clear hbad
    rcases hb3 with g1 | ⟨g1, g2⟩ | ⟨g1, g2, rfl, g4⟩
    all_goals
      go_enter Try.func20, Try.ntmps20
      go_wp2_with fail
      go_ret
      exact ⟨rfl, HW.out⟩
  · have hnb : ¬ (t < 0 ∨ 3 ≤ t ∨ (b = false ∧ t ≠ 0)) := by
      rcases t3 with rfl | rfl <;> simp <;> omega
    have g1 : ¬ t < 0 := by omega
    have g2 : ¬ 3 ≤ t := by omega
    have hm : mayB ⟨k, L, b, t⟩ = if k = 0 ∨ k = 1 then decide (L.length = 1) && withinB L else if k = 2 ∨ k = 3 then decide (L.length ≤ 64) && withinB L else if k = 4 then pairsB L (-1099511627776) else if k = 5 then pairsB L 0 else false := by
      unfold mayB; simp only; rw [if_neg hnb]
    have hwi : (!L.any (fun n => n != cutI n)) = withinB L := rfl
    generalize hq : L.any (fun n => n != cutI n) = q at HC hwi
    have t4 : b = true ∨ (b = false ∧ (t != 0) = false) := by
      rcases t3 with h | rfl
      · exact .inl h
      · cases b <;> simp
    have HM := Lib.hid hm
    have HI := Lib.hid hwi
    clear hm hnb t1 t2 hq t3 hwi
    by_cases k0 : k = 0
    · subst k0
      have e0 : mayB ⟨0, L, b, t⟩ = (decide (L.length = 1) && withinB L) := by rw [HM.out]; simp
      by_cases h1 : n = 1
      · have h1' : ((n : Int) == 1) = true := by simp; omega
        have fin : (!q) = mayB ⟨0, L, b, t⟩ := by rw [e0, HI.out, decide_eq_true (by rw [← HN.out]; exact h1)]; rfl
        have HT := Lib.hid fin
        clear fin e0 h1
        rcases t4 with rfl | ⟨rfl, h0⟩
        all_goals
          go_enter Try.func20, Try.ntmps20
          go_wp2_with fail
          refine HC.out.mono ?_
          rintro e w1 ⟨rfl, rfl⟩
          go_wp2_with fail
          go_ret
          exact ⟨bool_ret HT.out, HW.out⟩
      · have h1' : ((n : Int) == 1) = false := by simp; omega
        have fin : false = mayB ⟨0, L, b, t⟩ := by rw [e0, decide_eq_false (by rw [← HN.out]; exact h1)]; rfl
        have HT := Lib.hid fin
        clear fin e0 h1
        rcases t4 with rfl | ⟨rfl, h0⟩
        all_goals
          go_enter Try.func20, Try.ntmps20
          go_wp2_with fail
          refine HC.out.mono ?_
          rintro e w1 ⟨rfl, rfl⟩
          go_wp2_with fail
          go_ret
          exact ⟨bool_ret HT.out, HW.out⟩
    by_cases k1 : k = 1
    · subst k1
      have e0 : mayB ⟨1, L, b, t⟩ = (decide (L.length = 1) && withinB L) := by rw [HM.out]; simp
      by_cases h1 : n = 1
      · have h1' : ((n : Int) == 1) = true := by simp; omega
        have fin : (!q) = mayB ⟨1, L, b, t⟩ := by rw [e0, HI.out, decide_eq_true (by rw [← HN.out]; exact h1)]; rfl
        have HT := Lib.hid fin
        clear fin e0 h1
        rcases t4 with rfl | ⟨rfl, h0⟩
        all_goals
          go_enter Try.func20, Try.ntmps20
          go_wp2_with fail
          refine HC.out.mono ?_
          rintro e w1 ⟨rfl, rfl⟩
          go_wp2_with fail
          go_ret
          exact ⟨bool_ret HT.out, HW.out⟩
      · have h1' : ((n : Int) == 1) = false := by simp; omega
        have fin : false = mayB ⟨1, L, b, t⟩ := by rw [e0, decide_eq_false (by rw [← HN.out]; exact h1)]; rfl
        have HT := Lib.hid fin
        clear fin e0 h1
        rcases t4 with rfl | ⟨rfl, h0⟩
        all_goals
          go_enter Try.func20, Try.ntmps20
          go_wp2_with fail
          refine HC.out.mono ?_
          rintro e w1 ⟨rfl, rfl⟩
          go_wp2_with fail
          go_ret
          exact ⟨bool_ret HT.out, HW.out⟩
    by_cases k2 : k = 2
    · subst k2
      have e0 : mayB ⟨2, L, b, t⟩ = (decide (L.length ≤ 64) && withinB L) := by rw [HM.out]; simp
      by_cases h1 : n ≤ 64
      · have h1' : decide ((n : Int) ≤ 64) = true := by simp; omega
        have fin : (!q) = mayB ⟨2, L, b, t⟩ := by rw [e0, HI.out, decide_eq_true (by rw [← HN.out]; exact h1)]; rfl
        have HT := Lib.hid fin
        clear fin e0 h1
        rcases t4 with rfl | ⟨rfl, h0⟩
        all_goals
          go_enter Try.func20, Try.ntmps20
          go_wp2_with fail
          refine HC.out.mono ?_
          rintro e w1 ⟨rfl, rfl⟩
          go_wp2_with fail
          go_ret
          exact ⟨bool_ret HT.out, HW.out⟩
      · have h1' : decide ((n : Int) ≤ 64) = false := by simp; omega
        have fin : false = mayB ⟨2, L, b, t⟩ := by rw [e0, decide_eq_false (by rw [← HN.out]; exact h1)]; rfl
        have HT := Lib.hid fin
        clear fin e0 h1
        rcases t4 with rfl | ⟨rfl, h0⟩
        all_goals
          go_enter Try.func20, Try.ntmps20
          go_wp2_with fail
          refine HC.out.mono ?_
          rintro e w1 ⟨rfl, rfl⟩
          go_wp2_with fail
          go_ret
          exact ⟨bool_ret HT.out, HW.out⟩
    by_cases k3 : k = 3
    · subst k3
      have e0 : mayB ⟨3, L, b, t⟩ = (decide (L.length ≤ 64) && withinB L) := by rw [HM.out]; simp
      by_cases h1 : n ≤ 64
      · have h1' : decide ((n : Int) ≤ 64) = true := by simp; omega
        have fin : (!q) = mayB ⟨3, L, b, t⟩ := by rw [e0, HI.out, decide_eq_true (by rw [← HN.out]; exact h1)]; rfl
        have HT := Lib.hid fin
        clear fin e0 h1
        rcases t4 with rfl | ⟨rfl, h0⟩
        all_goals
          go_enter Try.func20, Try.ntmps20
          go_wp2_with fail
          refine HC.out.mono ?_
          rintro e w1 ⟨rfl, rfl⟩
          go_wp2_with fail
          go_ret
          exact ⟨bool_ret HT.out, HW.out⟩
      · have h1' : decide ((n : Int) ≤ 64) = false := by simp; omega
        have fin : false = mayB ⟨3, L, b, t⟩ := by rw [e0, decide_eq_false (by rw [← HN.out]; exact h1)]; rfl
        have HT := Lib.hid fin
        clear fin e0 h1
        rcases t4 with rfl | ⟨rfl, h0⟩
        all_goals
          go_enter Try.func20, Try.ntmps20
          go_wp2_with fail
          refine HC.out.mono ?_
          rintro e w1 ⟨rfl, rfl⟩
          go_wp2_with fail
          go_ret
          exact ⟨bool_ret HT.out, HW.out⟩
    by_cases k4 : k = 4
    · subst k4
      have e0 : mayB ⟨4, L, b, t⟩ = pairsB L (-1099511627776) := by rw [HM.out]; simp
      have fin : pairsB L (-1099511627776) = mayB ⟨4, L, b, t⟩ := e0.symm
      have HT := Lib.hid fin
      have HQ := Lib.hid (HP.out (-1099511627776))
      clear fin e0 HP
      rcases t4 with rfl | ⟨rfl, h0⟩
      all_goals
        go_enter Try.func20, Try.ntmps20
        go_wp2_with fail
        refine HC.out.mono ?_
        rintro e w1 ⟨rfl, rfl⟩
        go_wp2_with fail
        refine HQ.out.mono ?_
        rintro e w2 ⟨rfl, rfl⟩
        go_wp2_with fail
        go_ret
        exact ⟨bool_ret HT.out, HW.out⟩
    by_cases k5 : k = 5
    · subst k5
      have e0 : mayB ⟨5, L, b, t⟩ = pairsB L 0 := by rw [HM.out]; simp
      have fin : pairsB L 0 = mayB ⟨5, L, b, t⟩ := e0.symm
      have HT := Lib.hid fin
      have HQ := Lib.hid (HP.out 0)
      clear fin e0 HP
      rcases t4 with rfl | ⟨rfl, h0⟩
      all_goals
        go_enter Try.func20, Try.ntmps20
        go_wp2_with fail
        refine HC.out.mono ?_
        rintro e w1 ⟨rfl, rfl⟩
        go_wp2_with fail
        refine HQ.out.mono ?_
        rintro e w2 ⟨rfl, rfl⟩
        go_wp2_with fail
        go_ret
        exact ⟨bool_ret HT.out, HW.out⟩
    have fin : false = mayB ⟨k, L, b, t⟩ := by rw [HM.out, if_neg (by omega), if_neg (by omega), if_neg k4, if_neg k5]
    have HT := Lib.hid fin
    have g0' : (k == 0) = false := by simpa using k0
    have g1' : (k == 1) = false := by simpa using k1
    have g2' : (k == 2) = false := by simpa using k2
    have g3' : (k == 3) = false := by simpa using k3
    have g4' : (k == 4) = false := by simpa using k4
    have g5' : (k == 5) = false := by simpa using k5
    clear fin k0 k1 k2 k3 k4 k5
    rcases t4 with rfl | ⟨rfl, h0⟩
    all_goals
      go_enter Try.func20, Try.ntmps20
      go_wp2_with fail
      refine HC.out.mono ?_
      rintro e w1 ⟨rfl, rfl⟩
      go_wp2_with fail
      go_ret
      exact ⟨bool_ret HT.out, HW.out⟩
theorem o_may {w : World} {vl : Value} (s : St) (hx : Rd w vl s.L) (_ : s.L.length ≤ 17592186044416) :
    Calls Try.prog 20 #[.agg #[.int .i64 s.kind, vl, .bool s.isSealed, .int .i64 s.to]] w (Tells w (mayB s)) := o_may_any s hx
end Go.Proofs.Ytaoagaokocnehaa
/- Package objs: the walks of number, line. -/
namespace Go.Proofs.Ytaoagaokocnehaa
set_option linter.unusedVariables false
set_option maxRecDepth 100000
set_option linter.unusedSimpArgs false
open Go.RowKit

/-- What a step tells. -/
def StepP (w : World) (v0 : Value) (r : St × Int) (e : Ending) (w' : World) : Prop :=
  ∃ vl, e = .returned (.tuple #[.agg #[.int .i64 r.1.kind, vl, .bool r.1.isSealed, .int .i64 r.1.to], .int .i64 r.2]) ∧ Rd w' vl r.1.L ∧ Below w.heap.size w w' ∧ (vl = v0 ∨ (Own w' 3 1 vl r.1.L.length (ints r.1.L) ∧ Fresh w.heap.size vl))

theorem may_one {s : St} (hk : s.kind = 0 ∨ s.kind = 1) (hm : mayB s = true) : ∃ x, s.L = [x] ∧ -1099511627776 ≤ x ∧ x ≤ 1099511627776 := by
  unfold mayB at hm
  split at hm
  · simp at hm
  · simp only [Bool.and_eq_true, decide_eq_true_eq] at hm
    obtain ⟨h1, h2⟩ := hm
    obtain ⟨x, hx⟩ := List.length_eq_one_iff.1 h1
    refine ⟨x, hx, ?_⟩
    rw [hx] at h2
    unfold withinB at h2
    simp at h2
    have := cutI_range x
    omega

theorem below3 (w : World) (a b c : Obj) : Below w.heap.size w (((w.alloc a).alloc b).alloc c) := (((Below.refl _ w).alloc (Nat.le_refl _) _).alloc (by simp) _).alloc (by simp; omega) _
theorem stepp_same {w W : World} {vl : Value} {k t n : Int} {L : List Int} {b : Bool} (h : Rd w vl L) (hB : Below w.heap.size w W) : StepP w vl (⟨k, L, b, t⟩, n) (.returned (.tuple #[.agg #[.int .i64 k, vl, .bool b, .int .i64 t], .int .i64 n])) W :=
  ⟨_, rfl, h.below hB (Nat.le_refl _), hB, .inl rfl⟩
theorem stepp_one {w W : World} {v0 : Value} (hB : Below w.heap.size w W) (B : Nat) (hb : B = W.heap.size) (k t n z : Int) (b : Bool) : StepP w v0 (⟨k, [z], b, t⟩, n) (.returned (.tuple #[.agg #[.int .i64 k, .slice (some ⟨B, 0, none⟩) 1 1, .bool b, .int .i64 t], .int .i64 n])) (W.alloc (.cells #[.int .i64 z] 3)) := by
  subst hb
  have := own_lit W 3 (ints [z]) (by simp [ints, maxLen])
  exact ⟨_, rfl, own_rd (n := 1) this, hB.alloc hB.size _, .inr ⟨this, fresh_some hB.size⟩⟩

set_option maxRecDepth 100000 in
set_option maxHeartbeats 3200000 in
theorem o_number {w : World} {vl : Value} (s : St) (o : Op3) (hx : Rd w vl s.L) (hk : s.kind = 0 ∨ s.kind = 1) (hm : mayB s = true) :
    Calls Try.prog 27 #[.agg #[.int .i64 s.kind, vl, .bool s.isSealed, .int .i64 s.to], .agg #[.int .i64 o.code, .int .i64 o.a, .int .i64 o.b]] w (StepP w vl (numberS s o)) := by
  obtain ⟨x, hL, x1, x2⟩ := may_one hk hm
  obtain ⟨k, L, b, t⟩ := s
  obtain ⟨co, oa, ob⟩ := o
  simp only at hx hk hL hm ⊢
  subst hL
  obtain ⟨n, a, c, f, rfl, hn, hnc, hcm, hf, hv⟩ := hx.view
  simp at hn
  subst hn
  obtain ⟨bb, oo, rfl, hb, hc⟩ := hv (by omega)
  have hc0 := hc 0 (by omega)
  rw [hf, Nat.add_zero] at hc0
  simp only [List.getD_cons_zero] at hc0
  have hb1 : bb < w.heap.size + 1 := by omega
  have hb2 : bb < w.heap.size + 1 + 1 := by omega
  have HX := Lib.hid hx
  have HCa := fun W => Lib.hid (o_cut oa W)
  have HCs := fun W => Lib.hid (o_cut (x + cutI oa) W)
  have r1 := cutI_range oa
  obtain ⟨r1, r2⟩ := r1
  clear hf hc hv hx hm f
  by_cases c7 : co = 7
  · have hr : numberS ⟨k, [x], b, t⟩ ⟨co, oa, ob⟩ = (⟨k, [x], b, t⟩, x) := by simp [numberS, c7]
    rw [hr]
    subst c7
    clear hr HCa HCs
    go_enter Try.func27, Try.ntmps27
    go_wp2_with fail
    refine bodyPost_ret (v := .tuple #[.agg #[.int .i64 k, .slice (some ⟨bb, oo, none⟩) 1 c, .bool b, .int .i64 t], .int .i64 x]) ?_ rfl ?_
    · simp [results, Try.results27, go_sem]
    · exact stepp_same HX.out (below3 w _ _ _)
  · have c7' : (co == 7) = false := by simpa using c7
    by_cases ck : k = 0 ∧ co = 1
    · obtain ⟨rfl, rfl⟩ := ck
      have hr : numberS ⟨0, [x], b, t⟩ ⟨1, oa, ob⟩ = (⟨0, [cutI (x + cutI oa)], b, t⟩, x) := by simp [numberS]
      rw [hr]
      clear hr c7 HX
      generalize cutI oa = y at *
      generalize cutI (x + y) = z at *
      go_enter Try.func27, Try.ntmps27
      go_wp2_with fail
      refine (HCa _).out.mono ?_
      rintro e w1 ⟨rfl, rfl⟩
      go_wp2_with fail
      refine (HCs _).out.mono ?_
      rintro e w1 ⟨rfl, rfl⟩
      go_wp2_with fail
      refine bodyPost_ret (v := .tuple #[.agg #[.int .i64 0, .slice (some ⟨w.heap.size + 1 + 1 + 1, 0, none⟩) 1 1, .bool b, .int .i64 t], .int .i64 x]) ?_ rfl ?_
      · simp [results, Try.results27, go_sem]
      · exact stepp_one (below3 w _ _ _) _ (by simp) _ _ _ _ _
    · by_cases ck1 : k = 1 ∧ co = 2
      · obtain ⟨rfl, rfl⟩ := ck1
        have hr : numberS ⟨1, [x], b, t⟩ ⟨2, oa, ob⟩ = (⟨1, [cutI oa], b, t⟩, x) := by simp [numberS]
        rw [hr]
        clear hr c7 HX HCs
        generalize cutI oa = y at *
        go_enter Try.func27, Try.ntmps27
        go_wp2_with fail
        refine (HCa _).out.mono ?_
        rintro e w1 ⟨rfl, rfl⟩
        go_wp2_with fail
        refine bodyPost_ret (v := .tuple #[.agg #[.int .i64 1, .slice (some ⟨w.heap.size + 1 + 1 + 1, 0, none⟩) 1 1, .bool b, .int .i64 t], .int .i64 x]) ?_ rfl ?_
        · simp [results, Try.results27, go_sem]
        · exact stepp_one (below3 w _ _ _) _ (by simp) _ _ _ _ _
      · have hr : numberS ⟨k, [x], b, t⟩ ⟨co, oa, ob⟩ = (⟨k, [x], b, t⟩, 0) := by simp [numberS, c7, ck, ck1]
        rw [hr]
        clear hr HCa HCs c7
        rcases hk with rfl | rfl
        · have c1 : (co == 1) = false := by simp at ck; simpa using ck
          clear ck ck1
          go_enter Try.func27, Try.ntmps27
          go_wp2_with fail
          refine bodyPost_ret (v := .tuple #[.agg #[.int .i64 0, .slice (some ⟨bb, oo, none⟩) 1 c, .bool b, .int .i64 t], .int .i64 0]) ?_ rfl ?_
          · simp [results, Try.results27, go_sem]
          · exact stepp_same HX.out (below3 w _ _ _)
        · have c1 : (co == 2) = false := by simp at ck1; simpa using ck1
          clear ck ck1
          go_enter Try.func27, Try.ntmps27
          go_wp2_with fail
          refine bodyPost_ret (v := .tuple #[.agg #[.int .i64 1, .slice (some ⟨bb, oo, none⟩) 1 c, .bool b, .int .i64 t], .int .i64 0]) ?_ rfl ?_
          · simp [results, Try.results27, go_sem]
          · exact stepp_same HX.out (below3 w _ _ _)

theorem may_line {s : St} (hk : s.kind = 2 ∨ s.kind = 3) (hm : mayB s = true) : s.L.length ≤ 64 := by
  unfold mayB at hm
  split at hm
  · simp at hm
  · have h1 : ¬ (s.kind = 0 ∨ s.kind = 1) := by omega
    first | rw [if_neg h1, if_pos hk] at hm | rw [if_neg h1] at hm | skip
    simp only [Bool.and_eq_true, decide_eq_true_eq] at hm
    exact hm.1
end Go.Proofs.Ytaoagaokocnehaa
/- Package objs: the walk of line. -/
namespace Go.Proofs.Ytaoagaokocnehaa
set_option linter.unusedVariables false
set_option maxRecDepth 100000
set_option linter.unusedSimpArgs false
open Go.RowKit

theorem bcell {n : Nat} {W w1 : World} (hb : Below n W w1) : (∀ b o, b < n → w1.cell? ⟨b, o, none⟩ = W.cell? ⟨b, o, none⟩) ∧ (∀ b o, b < n → w1.frozen? ⟨b, o, none⟩ = W.frozen? ⟨b, o, none⟩) :=
  ⟨fun b o h => hb.cell (p := ⟨b, o, none⟩) h, fun b o h => hb.frozen (p := ⟨b, o, none⟩) h⟩

/-- The stores of a return: into the boxed state's list, into the result. -/
theorem sets_keeps (w4 : World) (B C : Nat) (v1 v2 v3 v4 v5 : Value) : Keeps (fun k => k = B ∨ k = C) w4 (((((w4.setCell ⟨B, 1, none⟩ v1).setCell ⟨C, 0, none⟩ v2).setCell ⟨C, 1, none⟩ v3).setCell ⟨C, 2, none⟩ v4).setCell ⟨C, 3, none⟩ v5) :=
  ((((((Keeps.refl _ w4).set B 1 (.inl (.inl rfl)) _).set C 0 (.inl (.inr rfl)) _).set C 1 (.inl (.inr rfl)) _).set C 2 (.inl (.inr rfl)) _).set C 3 (.inl (.inr rfl)) _)
/-- A state whose list is a row of the call's own. -/
theorem stepp_own {w w4 W : World} {B C : Nat} {v v0 : Value} {m : Nat} {L : List Int} {cb cc : Array Value} (hB : Blk w4 B cb 24) (hC : Blk w4 C cc 24) (hk : Keeps (fun k => k = B ∨ k = C) w4 W) (hb : Below w.heap.size w w4) (h1 : w.heap.size ≤ B) (h2 : w.heap.size ≤ C)
    (ho : Own w4 3 1 v m (ints L)) (hfr : Fresh w.heap.size v) (k t n : Int) (b : Bool) : StepP w v0 (⟨k, L, b, t⟩, n) (.returned (.tuple #[.agg #[.int .i64 k, v, .bool b, .int .i64 t], .int .i64 n])) W := by
  have h := own_keeps ho hk (by
    rintro q hq (rfl | rfl)
    · exact own_blk_ne ho hB (by decide) hq
    · exact own_blk_ne ho hC (by decide) hq)
  have hm : m = L.length := by have := h.1; simp [ints] at this; omega
  subst hm
  exact ⟨_, rfl, own_rd h, hb.trans (hk.below (by rintro k (rfl | rfl) <;> assumption) hb.size), .inr ⟨h, hfr⟩⟩

theorem o_cut' (n : Int) (w : World) : Calls Try.prog 37 #[.int .i64 n] w fun e w' => e = .returned (.int .i64 (cutI n)) ∧ w = w' := (o_cut n w).mono fun _ _ ⟨h1, h2⟩ => ⟨h1, h2.symm⟩

set_option maxRecDepth 100000 in
set_option maxHeartbeats 3200000 in
theorem o_push {w : World} {vl : Value} (k : Int) (L : List Int) (b : Bool) (t oa ob : Int) (hx : Rd w vl L) (hl : L.length < 64) :
    Calls Try.prog 28 #[.agg #[.int .i64 k, vl, .bool b, .int .i64 t], .agg #[.int .i64 3, .int .i64 oa, .int .i64 ob]] w (StepP w vl (⟨k, L ++ [cutI oa], b, t⟩, L.length + 1)) := by
  obtain ⟨i0, hi, hz0, hz1, hz2⟩ := info_parts infoInt
  obtain ⟨n, a, c, hvl, hn⟩ : ∃ n a c, vl = .slice a n c ∧ n = L.length := by
    obtain ⟨a, c, e, _⟩ := hx
    exact ⟨_, a, c, e, rfl⟩
  subst hvl
  have HN := Lib.hid hn
  have hl' : n < 64 := by omega
  have HC := fun W (hB : Below w.heap.size w W) => Lib.hid (sl_clone (w := W.drew) ((hx.below hB (Nat.le_refl _)).drew) (by omega))
  have HCa := fun W => Lib.hid (o_cut' oa W)
  rw [← hn]
  clear hn hx hl
  go_enter Try.func28, Try.ntmps28
  go_wp2_with fail
  go_region_law (first | (go_simp; go_at_call 42; refine (HC _ (below3 w _ _ _)).out.mono ?_; rintro e w2 ⟨v2, rfl, hown, hfr, hb2⟩; obtain ⟨hc2, hf2⟩ := bcell hb2; have hz2' : w.heap.size + 3 ≤ w2.heap.size := (by have := hb2.size; simp at this; omega); have HB2 := Lib.hid hb2; have HO2 := Lib.hid hown; have HF2 := Lib.hid hfr; clear hb2 hown hfr) | (go_simp; go_at_call 37; refine (HCa _).out.mono ?_; rintro e w3 ⟨rfl, rfl⟩) | (refine step_append_lies _ rfl (.tmp 28) (.tmp 32) 22 rfl 0 3 i0 (.int .i64 0) 1 8 Try.underlying22 hi hz0 hz1 hz2 rfl (by decide) v2 _ _ (by simp [Act.eval, Act.put]) (HO2.out.alloc _) ⟨w2.heap.size, 0, none⟩ 1 1 [.int .i64 (cutI oa)] (by simp [Act.eval, Act.put]) (by simp) (cell_one_new _ _ _) (by simp [Value.oneCell']) (by omega) (by rw [← HN.out]; simp only [maxLen]; omega) (by rw [← HN.out]; omega) (Nat.zero_le _) (w2.heap.size + 1) (by simp) ?_; intro g cap w4 hown4 hgrow hat hlt4; have hb4 := (HB2.out.alloc HB2.out.size (.cells #[.int .i64 (cutI oa)] 3)).grown hgrow (by have := HB2.out.size; rw [World.size_alloc]; omega) (fun k hk => HF2.out k hk); obtain ⟨hc4, hf4⟩ := bcell hb4; have hz4 : w.heap.size + 3 ≤ w4.heap.size := (by have := hb4.size; simp at this; omega); have HB4 := Lib.hid hb4; have HO4 := Lib.hid hown4; have HAT := Lib.hid hat; clear hb4 hown4 hc2 hf2 hgrow hat))
  all_goals
    have b0 := (((Blk.new w #[.int .i64 k, .slice a n c, .bool b, .int .i64 t] 24).alloc (.cells #[.int .i64 3, .int .i64 oa, .int .i64 ob] 26)).alloc (.cells #[.int .i64 0, .slice none 0 0, .bool false, .int .i64 0] 24)).drew.below HB4.out (by simp; omega)
    have b2 := (Blk.new ((w.alloc (.cells #[.int .i64 k, .slice a n c, .bool b, .int .i64 t] 24)).alloc (.cells #[.int .i64 3, .int .i64 oa, .int .i64 ob] 26)) #[.int .i64 0, .slice none 0 0, .bool false, .int .i64 0] 24).drew.below HB4.out (by simp)
    simp only [World.size_alloc] at b2
    have hk0 : w4.cell? ⟨w.heap.size, 0, none⟩ = some (.int .i64 k) := by rw [b0.cell]; rfl
    have hk1 : w4.cell? ⟨w.heap.size, 1, none⟩ = some (.slice a n c) := by rw [b0.cell]; rfl
    have hk2 : w4.cell? ⟨w.heap.size, 2, none⟩ = some (.bool b) := by rw [b0.cell]; rfl
    have hk3 : w4.cell? ⟨w.heap.size, 3, none⟩ = some (.int .i64 t) := by rw [b0.cell]; rfl
    have hr0 : w4.cell? ⟨w.heap.size + 1 + 1, 0, none⟩ = some (.int .i64 0) := by rw [b2.cell]; rfl
    have hr1 : w4.cell? ⟨w.heap.size + 1 + 1, 1, none⟩ = some (.slice none 0 0) := by rw [b2.cell]; rfl
    have hr2 : w4.cell? ⟨w.heap.size + 1 + 1, 2, none⟩ = some (.bool false) := by rw [b2.cell]; rfl
    have hr3 : w4.cell? ⟨w.heap.size + 1 + 1, 3, none⟩ = some (.int .i64 0) := by rw [b2.cell]; rfl
    have B0 := Lib.hid b0
    have B2 := Lib.hid b2
    clear b0 b2 hc4
    go_wp2_with fail
    refine bodyPost_ret (v := .tuple #[.agg #[.int .i64 k, .slice (some ⟨g, 0, none⟩) (L.length + 1) cap, .bool b, .int .i64 t], .int .i64 (n + 1)]) ?_ rfl ?_
    · simp [results, Try.results28, go_sem, hr0, hr1, hr2, hr3]
    · have hb : Below w.heap.size w w4 := ((below3 w _ _ _).drew.trans (HB4.out.mono (by simp; omega)))
      rw [show ints L ++ [Value.int .i64 (cutI oa)] = ints (L ++ [cutI oa]) by simp [ints]] at HO4
      exact stepp_own B0.out B2.out (sets_keeps _ _ _ _ _ _ _ _) hb (Nat.le_refl _) (by omega) HO4.out (fresh_some (by rcases HAT.out with e | e; (have := HF2.out _ e; simp at this; omega); omega)) _ _ _ _

/-- What the boxes of a call hold, behind a callee. -/
theorem box_facts {w w4 : World} {k t co oa ob : Int} {vl : Value} {b : Bool} (h : Below (w.heap.size + 1 + 1 + 1) (((w.alloc (.cells #[.int .i64 k, vl, .bool b, .int .i64 t] 24)).alloc (.cells #[.int .i64 co, .int .i64 oa, .int .i64 ob] 26)).alloc (.cells #[.int .i64 0, .slice none 0 0, .bool false, .int .i64 0] 24)) w4) :
    Blk w4 w.heap.size #[.int .i64 k, vl, .bool b, .int .i64 t] 24 ∧ Blk w4 (w.heap.size + 1) #[.int .i64 co, .int .i64 oa, .int .i64 ob] 26 ∧ Blk w4 (w.heap.size + 1 + 1) #[.int .i64 0, .slice none 0 0, .bool false, .int .i64 0] 24 ∧ w.heap.size + 1 + 1 + 1 ≤ w4.heap.size ∧ Below w.heap.size w w4 := by
  have b1 := (Blk.new (w.alloc (.cells #[.int .i64 k, vl, .bool b, .int .i64 t] 24)) #[.int .i64 co, .int .i64 oa, .int .i64 ob] 26).alloc (.cells #[.int .i64 0, .slice none 0 0, .bool false, .int .i64 0] 24)
  have b2 := Blk.new ((w.alloc (.cells #[.int .i64 k, vl, .bool b, .int .i64 t] 24)).alloc (.cells #[.int .i64 co, .int .i64 oa, .int .i64 ob] 26)) #[.int .i64 0, .slice none 0 0, .bool false, .int .i64 0] 24
  simp only [World.size_alloc] at b1 b2
  refine ⟨(((Blk.new w _ _).alloc _).alloc _).below h (by omega), b1.below h (by omega), b2.below h (by omega), by have := h.size; simpa using this, (below3 w _ _ _).trans (h.mono (by omega))⟩

set_option maxRecDepth 100000 in
set_option maxHeartbeats 3200000 in
theorem o_line {w : World} {vl : Value} (s : St) (o : Op3) (hx : Rd w vl s.L) (hk : s.kind = 2 ∨ s.kind = 3) (hm : mayB s = true) :
    Calls Try.prog 28 #[.agg #[.int .i64 s.kind, vl, .bool s.isSealed, .int .i64 s.to], .agg #[.int .i64 o.code, .int .i64 o.a, .int .i64 o.b]] w (StepP w vl (lineS s o)) := by
  have h64 := may_line hk hm
  obtain ⟨k, L, b, t⟩ := s
  obtain ⟨co, oa, ob⟩ := o
  simp only at hx hk h64 hm ⊢
  by_cases cp : co = 3 ∧ L.length < 64
  · obtain ⟨rfl, hl⟩ := cp
    have hr : lineS ⟨k, L, b, t⟩ ⟨3, oa, ob⟩ = ((⟨k, L ++ [cutI oa], b, t⟩ : St), ((L.length : Int) + 1)) := by simp [lineS, hl]
    rw [hr]
    exact o_push k L b t oa ob hx hl
  · have HX := Lib.hid hx
    obtain ⟨n, a, c, f, hvl, hn, hnc, hcm, hf, hv⟩ := hx.view
    subst hvl
    have h64' : n ≤ 64 := by omega
    have HN := Lib.hid hn
    have HF := Lib.hid hf
    have HV := Lib.hid hv
    have same : ∀ (r : Int) (W : World), Below w.heap.size w W → StepP w (.slice a n c) (⟨k, L, b, t⟩, r) (.returned (.tuple #[.agg #[.int .i64 k, .slice a n c, .bool b, .int .i64 t], .int .i64 r])) W := fun r W hB => stepp_same HX.out hB
    have HS := Lib.hid same
    clear same hx hm hf hv h64
    by_cases c7 : co = 7
    · have hr : lineS ⟨k, L, b, t⟩ ⟨co, oa, ob⟩ = ((⟨k, L, b, t⟩ : St), (n : Int)) := by simp [lineS, c7, hn]
      rw [hr]
      subst c7
      clear hr cp hn
      go_enter Try.func28, Try.ntmps28
      go_wp2_with fail
      refine bodyPost_ret (v := .tuple #[.agg #[.int .i64 k, .slice a n c, .bool b, .int .i64 t], .int .i64 n]) ?_ rfl ?_
      · simp [results, Try.results28, go_sem]
      · exact HS.out _ _ (below3 w _ _ _)
    · have c7' : (co == 7) = false := by simpa using c7
      by_cases c3 : co = 3
      · have hl : ¬ n < 64 := by rw [hn]; exact fun h => cp ⟨c3, h⟩
        have hr : lineS ⟨k, L, b, t⟩ ⟨co, oa, ob⟩ = (⟨k, L, b, t⟩, -1) := by rw [hn] at hl; simp [lineS, c3, hl]
        rw [hr]
        subst c3
        clear hr cp hn c7
        go_enter Try.func28, Try.ntmps28
        go_wp2_with fail
        refine bodyPost_ret (v := .tuple #[.agg #[.int .i64 k, .slice a n c, .bool b, .int .i64 t], .int .i64 (-1)]) ?_ rfl ?_
        · simp [results, Try.results28, go_sem]
        · exact HS.out _ _ (below3 w _ _ _)
      · have c3' : (co == 3) = false := by simpa using c3
        by_cases c4 : co = 4
        · by_cases h0 : n = 0
          · have hr : lineS ⟨k, L, b, t⟩ ⟨co, oa, ob⟩ = (⟨k, L, b, t⟩, -1) := by rw [hn] at h0; simp [lineS, c4, h0]
            rw [hr]
            subst c4
            subst h0
            clear hr cp hn c7 c3
            go_enter Try.func28, Try.ntmps28
            go_wp2_with fail
            refine bodyPost_ret (v := .tuple #[.agg #[.int .i64 k, .slice a 0 c, .bool b, .int .i64 t], .int .i64 (-1)]) ?_ rfl ?_
            · simp [results, Try.results28, go_sem]
            · exact HS.out _ _ (below3 w _ _ _)
          · subst c4
            obtain ⟨m, rfl⟩ : ∃ m, n = m + 1 := ⟨n - 1, by omega⟩
            obtain ⟨bb, oo, rfl, hb, hc⟩ := HV.out (by omega)
            have hb1 : bb < w.heap.size + 1 := by omega
            have hb2 : bb < w.heap.size + 1 + 1 := by omega
            have HC := fun W (hB : Below w.heap.size w W) => Lib.hid (sl_clone (w := W) (HX.out.below hB (Nat.le_refl _)) (by rw [← HN.out]; omega))
            have hm0 : (((m + 1 : Nat) : Int) == 0) = false := by simp; omega
            clear cp c7 c3 h0 HS
            rcases hk with rfl | rfl
            · have hr : lineS ⟨2, L, b, t⟩ ⟨4, oa, ob⟩ = (⟨2, L.drop 1, b, t⟩, f 0) := by
                rw [HF.out]; simp [lineS, ← HN.out]
              rw [hr]
              have hc0 := hc 0 (by omega)
              rw [Nat.add_zero] at hc0
              generalize f 0 = x at *
              clear hr hc hn
              go_enter Try.func28, Try.ntmps28
              go_wp2_with fail
              refine (HC _ (below3 w _ _ _)).out.mono ?_
              rintro e w2 ⟨v2, rfl, hown, hfr, hb2'⟩
              rw [← HN.out] at hown
              obtain ⟨g, c2, rfl, g1, g2⟩ := own_open hown (by omega)
              have HO2 := Lib.hid hown
              have HFR := Lib.hid (hfr g rfl)
              have HB2 := Lib.hid hb2'
              clear hown hfr hb2' HC
              go_wp2_with fail
              refine (sl_delete HO2.out 0 1 (by omega) (by omega)).mono ?_
              rintro e w4 ⟨rfl, hown4, hk4⟩
              have hB4 : Below (w.heap.size + 1 + 1 + 1) _ w4 := (HB2.out.mono (by simp)).trans (hk4.below (by rintro q rfl; have := HFR.out; simpa using this) (by have := HB2.out.size; simpa using this))
              obtain ⟨b0, b1, b2, hz4, hb4⟩ := box_facts hB4
              have hk0 : w4.cell? ⟨w.heap.size, 0, none⟩ = some (.int .i64 2) := by rw [b0.cell]; rfl
              have hk1 : w4.cell? ⟨w.heap.size, 1, none⟩ = some (.slice (some ⟨bb, oo, none⟩) (m + 1) c) := by rw [b0.cell]; rfl
              have hk2 : w4.cell? ⟨w.heap.size, 2, none⟩ = some (.bool b) := by rw [b0.cell]; rfl
              have hk3 : w4.cell? ⟨w.heap.size, 3, none⟩ = some (.int .i64 t) := by rw [b0.cell]; rfl
              have hr0 : w4.cell? ⟨w.heap.size + 1 + 1, 0, none⟩ = some (.int .i64 0) := by rw [b2.cell]; rfl
              have hr1 : w4.cell? ⟨w.heap.size + 1 + 1, 1, none⟩ = some (.slice none 0 0) := by rw [b2.cell]; rfl
              have hr2 : w4.cell? ⟨w.heap.size + 1 + 1, 2, none⟩ = some (.bool false) := by rw [b2.cell]; rfl
              have hr3 : w4.cell? ⟨w.heap.size + 1 + 1, 3, none⟩ = some (.int .i64 0) := by rw [b2.cell]; rfl
              have hfz0 := b0.frozen 1
              have hfr0 := b2.frozen 0
              have hfr1 := b2.frozen 1
              have hfr2 := b2.frozen 2
              have hfr3 := b2.frozen 3
              have B0 := Lib.hid b0
              have B2 := Lib.hid b2
              have hown4' : Own w4 3 1 (.slice (some ⟨g, 0, none⟩) m c2) m (ints (L.drop 1)) := by simpa using hown4
              have HO4 := Lib.hid hown4'
              have HB4 := Lib.hid hb4
              clear b0 b1 b2 hB4 hown4 hown4' hk4 hb4
              go_wp2_with fail
              refine bodyPost_ret (v := .tuple #[.agg #[.int .i64 2, .slice (some ⟨g, 0, none⟩) m c2, .bool b, .int .i64 t], .int .i64 x]) ?_ rfl ?_
              · simp [results, Try.results28, go_sem, hr0, hr1, hr2, hr3]
              · exact stepp_own B0.out B2.out (sets_keeps _ _ _ _ _ _ _ _) HB4.out (Nat.le_refl _) (by omega) HO4.out (fresh_some (by have := HFR.out; simp at this; omega)) _ _ _ _
            · have hr : lineS ⟨3, L, b, t⟩ ⟨4, oa, ob⟩ = (⟨3, L.take m, b, t⟩, f m) := by
                rw [HF.out]; simp [lineS, ← HN.out]
              rw [hr]
              have hc0 := hc m (by omega)
              generalize f m = x at *
              clear hr hc hn
              go_enter Try.func28, Try.ntmps28
              go_wp2_with fail
              refine (HC _ (below3 w _ _ _)).out.mono ?_
              rintro e w2 ⟨v2, rfl, hown, hfr, hb2'⟩
              rw [← HN.out] at hown
              obtain ⟨g, c2, rfl, g1, g2⟩ := own_open hown (by omega)
              have HO2 := Lib.hid hown
              have HFR := Lib.hid (hfr g rfl)
              have HB2 := Lib.hid hb2'
              clear hown hfr hb2' HC
              go_wp2_with fail
              refine (sl_delete HO2.out m (m + 1) (by omega) (by omega)).mono ?_
              rintro e w4 ⟨rfl, hown4, hk4⟩
              have hB4 : Below (w.heap.size + 1 + 1 + 1) _ w4 := (HB2.out.mono (by simp)).trans (hk4.below (by rintro q rfl; have := HFR.out; simpa using this) (by have := HB2.out.size; simpa using this))
              obtain ⟨b0, b1, b2, hz4, hb4⟩ := box_facts hB4
              have hk0 : w4.cell? ⟨w.heap.size, 0, none⟩ = some (.int .i64 3) := by rw [b0.cell]; rfl
              have hk1 : w4.cell? ⟨w.heap.size, 1, none⟩ = some (.slice (some ⟨bb, oo, none⟩) (m + 1) c) := by rw [b0.cell]; rfl
              have hk2 : w4.cell? ⟨w.heap.size, 2, none⟩ = some (.bool b) := by rw [b0.cell]; rfl
              have hk3 : w4.cell? ⟨w.heap.size, 3, none⟩ = some (.int .i64 t) := by rw [b0.cell]; rfl
              have hr0 : w4.cell? ⟨w.heap.size + 1 + 1, 0, none⟩ = some (.int .i64 0) := by rw [b2.cell]; rfl
              have hr1 : w4.cell? ⟨w.heap.size + 1 + 1, 1, none⟩ = some (.slice none 0 0) := by rw [b2.cell]; rfl
              have hr2 : w4.cell? ⟨w.heap.size + 1 + 1, 2, none⟩ = some (.bool false) := by rw [b2.cell]; rfl
              have hr3 : w4.cell? ⟨w.heap.size + 1 + 1, 3, none⟩ = some (.int .i64 0) := by rw [b2.cell]; rfl
              have hfz0 := b0.frozen 1
              have hfr0 := b2.frozen 0
              have hfr1 := b2.frozen 1
              have hfr2 := b2.frozen 2
              have hfr3 := b2.frozen 3
              have B0 := Lib.hid b0
              have B2 := Lib.hid b2
              have hown4' : Own w4 3 1 (.slice (some ⟨g, 0, none⟩) m c2) m (ints (L.take m)) := by
                have e : L.drop (m + 1) = [] := List.drop_eq_nil_of_le (by rw [← HN.out]; omega)
                rw [e, List.append_nil, Nat.sub_self, Nat.add_zero] at hown4
                exact hown4
              have HO4 := Lib.hid hown4'
              have HB4 := Lib.hid hb4
              clear b0 b1 b2 hB4 hown4 hown4' hk4 hb4
              go_wp2_with fail
              refine bodyPost_ret (v := .tuple #[.agg #[.int .i64 3, .slice (some ⟨g, 0, none⟩) m c2, .bool b, .int .i64 t], .int .i64 x]) ?_ rfl ?_
              · simp [results, Try.results28, go_sem, hr0, hr1, hr2, hr3]
              · exact stepp_own B0.out B2.out (sets_keeps _ _ _ _ _ _ _ _) HB4.out (Nat.le_refl _) (by omega) HO4.out (fresh_some (by have := HFR.out; simp at this; omega)) _ _ _ _
        · have c4' : (co != 4) = true := by simpa using c4
          have c4'' : (co == 4) = false := by simpa using c4
          have hr : lineS ⟨k, L, b, t⟩ ⟨co, oa, ob⟩ = (⟨k, L, b, t⟩, 0) := by simp [lineS, c7, c3, c4]
          rw [hr]
          clear hr cp c7 c3 c4 hn
          go_enter Try.func28, Try.ntmps28
          go_wp2_with fail
          refine bodyPost_ret (v := .tuple #[.agg #[.int .i64 k, .slice a n c, .bool b, .int .i64 t], .int .i64 0]) ?_ rfl ?_
          · simp [results, Try.results28, go_sem]
          · exact HS.out _ _ (below3 w _ _ _)
end Go.Proofs.Ytaoagaokocnehaa
/- Package objs: the walk of store. -/
namespace Go.Proofs.Ytaoagaokocnehaa
set_option linter.unusedVariables false
set_option maxRecDepth 100000
set_option linter.unusedSimpArgs false
open Go.RowKit

theorem may_pairs {s : St} (hk : s.kind = 4 ∨ s.kind = 5) (hm : mayB s = true) : s.L.length % 2 = 0 ∧ s.L.length ≤ 128 := by
  unfold mayB at hm
  split at hm
  · simp at hm
  · rcases hk with h | h <;> simp only [h] at hm <;> simp [pairsB] at hm <;> exact ⟨hm.2.1, hm.2.2⟩

theorem below3d (w : World) (a b c : Obj) (q : Nat) : Below w.heap.size w ((((w.alloc a).alloc b).alloc c).drewN q) := (below3 w a b c).trans ⟨rfl, rfl, rfl, Nat.le_refl _, fun _ _ => rfl⟩
theorem below_undrew {n : Nat} {W w1 : World} {q : Nat} (h : Below n (W.drewN q) w1) : Below n W w1 := ⟨h.os, h.tape, h.output, h.size, h.block⟩
theorem below3dd (w : World) (a b c : Obj) (q r : Nat) : Below w.heap.size w (((((w.alloc a).alloc b).alloc c).drewN q).drewN r) := (below3 w a b c).trans ⟨rfl, rfl, rfl, Nat.le_refl _, fun _ _ => rfl⟩
theorem below_res {w W : World} (h : Below w.heap.size w W) (C : Nat) (hC : w.heap.size ≤ C) (v1 v2 v3 v4 : Value) : Below w.heap.size w ((((W.setCell ⟨C, 0, none⟩ v1).setCell ⟨C, 1, none⟩ v2).setCell ⟨C, 2, none⟩ v3).setCell ⟨C, 3, none⟩ v4) :=
  (((h.setCell (p := ⟨C, 0, none⟩) hC _).setCell (p := ⟨C, 1, none⟩) hC _).setCell (p := ⟨C, 2, none⟩) hC _).setCell (p := ⟨C, 3, none⟩) hC _
theorem drewN3 (w : World) (q r : Nat) : (w.drewN q).drewN r = w.drewN (q + r) := World.drewN_drewN ..

end Go.Proofs.Ytaoagaokocnehaa
/- Package objs: the walk of store, Put (there is room). -/
namespace Go.Proofs.Ytaoagaokocnehaa
set_option linter.unusedVariables false
set_option maxRecDepth 100000
set_option linter.unusedSimpArgs false
open Go.RowKit

set_option maxRecDepth 100000 in
set_option maxHeartbeats 6400000 in
theorem o_store_yes {w : World} {n c j : Nat} {a : Option Addr} {L L2 : List Int} {b fd : Bool} {t oa ob had y : Int} (n1 : ¬ oa < 0) (n2 : ¬ 255 < oa) (HX : Hid (Rd w (.slice a n c) L))
    (HH : ∀ W, Below w.heap.size w W → Hid (Calls Try.prog 44 #[.slice a n c, .int .i64 oa] W fun e w' => e = .returned (.int .i64 had) ∧ ∃ q, w' = W.drewN q))
    (HFi : ∀ W, Below w.heap.size w W → Hid (Calls Try.prog 45 #[.slice a n c, .int .i64 oa] W (FindP W j fd)))
    (HP : ∀ W, Below w.heap.size w W → Hid (Calls Try.prog 46 #[.slice a n c, .int .i64 oa, .int .i64 y] W (PutP W L2 true)))
    (HCa : ∀ W, Hid (Calls Try.prog 37 #[.int .i64 ob] W fun e w' => e = .returned (.int .i64 y) ∧ W = w')) :
    Calls Try.prog 29 #[.agg #[.int .i64 4, .slice a n c, .bool b, .int .i64 t], .agg #[.int .i64 5, .int .i64 oa, .int .i64 ob]] w (StepP w (.slice a n c) ((⟨4, L2, b, t⟩ : St), had)) := by
  go_enter Try.func29, Try.ntmps29
  go_wp2_with fail
  refine (HH _ (below3 w _ _ _)).out.mono ?_
  rintro e w1 ⟨rfl, q, rfl⟩
  go_wp2_with fail
  refine (HFi _ (below3d w _ _ _ _)).out.mono ?_
  rintro e w1 ⟨rfl, q2, rfl⟩
  go_wp2_with fail
  go_region_with (first | (go_at_call 37; refine (HCa _).out.mono ?_; rintro e w3 ⟨rfl, rfl⟩) | (go_at_call 46; refine (HP _ (below3d w _ _ _ _).drew).out.mono ?_; rintro e w4 ⟨v4, rfl, hrd, how, hb4'⟩; obtain ⟨a4, c4, rfl, _⟩ := id hrd; have HB' := Lib.hid hb4'; have HR := Lib.hid (how rfl); clear hb4' hrd how))
  all_goals
    obtain ⟨b0, b1, b2, hz4, hb4⟩ := box_facts (k := 4) (t := t) (co := 5) (oa := oa) (ob := ob) (vl := .slice a n c) (b := b) (below_undrew (q := q + q2 + 1) (HB'.out.mono (by simp : w.heap.size + 1 + 1 + 1 ≤ _)))
    have hk0 : w4.cell? ⟨w.heap.size, 0, none⟩ = some (.int .i64 4) := by rw [b0.cell]; rfl
    have hk1 : w4.cell? ⟨w.heap.size, 1, none⟩ = some (.slice a n c) := by rw [b0.cell]; rfl
    have hk2 : w4.cell? ⟨w.heap.size, 2, none⟩ = some (.bool b) := by rw [b0.cell]; rfl
    have hk3 : w4.cell? ⟨w.heap.size, 3, none⟩ = some (.int .i64 t) := by rw [b0.cell]; rfl
    have ho0 : w4.cell? ⟨w.heap.size + 1, 0, none⟩ = some (.int .i64 5) := by rw [b1.cell]; rfl
    have ho1 : w4.cell? ⟨w.heap.size + 1, 1, none⟩ = some (.int .i64 oa) := by rw [b1.cell]; rfl
    have ho2 : w4.cell? ⟨w.heap.size + 1, 2, none⟩ = some (.int .i64 ob) := by rw [b1.cell]; rfl
    have hr0 : w4.cell? ⟨w.heap.size + 1 + 1, 0, none⟩ = some (.int .i64 0) := by rw [b2.cell]; rfl
    have hr1 : w4.cell? ⟨w.heap.size + 1 + 1, 1, none⟩ = some (.slice none 0 0) := by rw [b2.cell]; rfl
    have hr2 : w4.cell? ⟨w.heap.size + 1 + 1, 2, none⟩ = some (.bool false) := by rw [b2.cell]; rfl
    have hr3 : w4.cell? ⟨w.heap.size + 1 + 1, 3, none⟩ = some (.int .i64 0) := by rw [b2.cell]; rfl
    have hfz0 := b0.frozen 1
    have hfr0 := b2.frozen 0
    have hfr1 := b2.frozen 1
    have hfr2 := b2.frozen 2
    have hfr3 := b2.frozen 3
    have B0 := Lib.hid b0
    have B2 := Lib.hid b2
    have HB4 := Lib.hid hb4
    clear b0 b1 b2 hb4 HB'
    go_wp2_with fail
    refine bodyPost_ret (v := .tuple #[.agg #[.int .i64 4, .slice a4 L2.length c4, .bool b, .int .i64 t], .int .i64 had]) ?_ rfl ?_
    · simp [results, Try.results29, go_sem, hr0, hr1, hr2, hr3]
    · exact stepp_own B0.out B2.out (sets_keeps _ _ _ _ _ _ _ _) HB4.out (Nat.le_refl _) (by omega) HR.out.1 (HR.out.2.mono (below3d w _ _ _ _).drew.size) _ _ _ _
end Go.Proofs.Ytaoagaokocnehaa
/- Package objs: the walk of store, Put (there is no room). -/
namespace Go.Proofs.Ytaoagaokocnehaa
set_option linter.unusedVariables false
set_option maxRecDepth 100000
set_option linter.unusedSimpArgs false
open Go.RowKit

set_option maxRecDepth 100000 in
set_option maxHeartbeats 6400000 in
theorem o_store_no {w : World} {n c j : Nat} {a : Option Addr} {L L2 : List Int} {b fd : Bool} {t oa ob had y : Int} (n1 : ¬ oa < 0) (n2 : ¬ 255 < oa) (HX : Hid (Rd w (.slice a n c) L))
    (HH : ∀ W, Below w.heap.size w W → Hid (Calls Try.prog 44 #[.slice a n c, .int .i64 oa] W fun e w' => e = .returned (.int .i64 had) ∧ ∃ q, w' = W.drewN q))
    (HFi : ∀ W, Below w.heap.size w W → Hid (Calls Try.prog 45 #[.slice a n c, .int .i64 oa] W (FindP W j fd)))
    (HP : ∀ W, Below w.heap.size w W → Hid (Calls Try.prog 46 #[.slice a n c, .int .i64 oa, .int .i64 y] W (PutP W L2 false)))
    (HCa : ∀ W, Hid (Calls Try.prog 37 #[.int .i64 ob] W fun e w' => e = .returned (.int .i64 y) ∧ W = w')) :
    Calls Try.prog 29 #[.agg #[.int .i64 4, .slice a n c, .bool b, .int .i64 t], .agg #[.int .i64 5, .int .i64 oa, .int .i64 ob]] w (StepP w (.slice a n c) ((⟨4, L, b, t⟩ : St), -2)) := by
  go_enter Try.func29, Try.ntmps29
  go_wp2_with fail
  refine (HH _ (below3 w _ _ _)).out.mono ?_
  rintro e w1 ⟨rfl, q, rfl⟩
  go_wp2_with fail
  refine (HFi _ (below3d w _ _ _ _)).out.mono ?_
  rintro e w1 ⟨rfl, q2, rfl⟩
  go_wp2_with fail
  go_region_with (first | (go_at_call 37; refine (HCa _).out.mono ?_; rintro e w3 ⟨rfl, rfl⟩) | (go_at_call 46; refine (HP _ (below3d w _ _ _ _).drew).out.mono ?_; rintro e w4 ⟨v4, rfl, hrd, how, hb4'⟩; obtain ⟨a4, c4, rfl, _⟩ := id hrd; have HB' := Lib.hid hb4'; clear hb4' hrd how))
  all_goals
    obtain ⟨b0, b1, b2, hz4, hb4⟩ := box_facts (k := 4) (t := t) (co := 5) (oa := oa) (ob := ob) (vl := .slice a n c) (b := b) (below_undrew (q := q + q2 + 1) (HB'.out.mono (by simp : w.heap.size + 1 + 1 + 1 ≤ _)))
    have hk0 : w4.cell? ⟨w.heap.size, 0, none⟩ = some (.int .i64 4) := by rw [b0.cell]; rfl
    have hk1 : w4.cell? ⟨w.heap.size, 1, none⟩ = some (.slice a n c) := by rw [b0.cell]; rfl
    have hk2 : w4.cell? ⟨w.heap.size, 2, none⟩ = some (.bool b) := by rw [b0.cell]; rfl
    have hk3 : w4.cell? ⟨w.heap.size, 3, none⟩ = some (.int .i64 t) := by rw [b0.cell]; rfl
    have ho0 : w4.cell? ⟨w.heap.size + 1, 0, none⟩ = some (.int .i64 5) := by rw [b1.cell]; rfl
    have ho1 : w4.cell? ⟨w.heap.size + 1, 1, none⟩ = some (.int .i64 oa) := by rw [b1.cell]; rfl
    have ho2 : w4.cell? ⟨w.heap.size + 1, 2, none⟩ = some (.int .i64 ob) := by rw [b1.cell]; rfl
    have hr0 : w4.cell? ⟨w.heap.size + 1 + 1, 0, none⟩ = some (.int .i64 0) := by rw [b2.cell]; rfl
    have hr1 : w4.cell? ⟨w.heap.size + 1 + 1, 1, none⟩ = some (.slice none 0 0) := by rw [b2.cell]; rfl
    have hr2 : w4.cell? ⟨w.heap.size + 1 + 1, 2, none⟩ = some (.bool false) := by rw [b2.cell]; rfl
    have hr3 : w4.cell? ⟨w.heap.size + 1 + 1, 3, none⟩ = some (.int .i64 0) := by rw [b2.cell]; rfl
    have hfz0 := b0.frozen 1
    have hfr0 := b2.frozen 0
    have hfr1 := b2.frozen 1
    have hfr2 := b2.frozen 2
    have hfr3 := b2.frozen 3
    have B0 := Lib.hid b0
    have B2 := Lib.hid b2
    have HB4 := Lib.hid hb4
    clear b0 b1 b2 hb4 HB'
    go_wp2_with fail
    refine bodyPost_ret (v := .tuple #[.agg #[.int .i64 4, .slice a n c, .bool b, .int .i64 t], .int .i64 (-2)]) ?_ rfl ?_
    · simp [results, Try.results29, go_sem, hr0, hr1, hr2, hr3]
    · exact stepp_same HX.out (below_res HB4.out _ (by omega) _ _ _ _)
end Go.Proofs.Ytaoagaokocnehaa
/- Package objs: the walk of store. -/
namespace Go.Proofs.Ytaoagaokocnehaa
set_option linter.unusedVariables false
set_option maxRecDepth 100000
set_option linter.unusedSimpArgs false
open Go.RowKit

set_option maxRecDepth 100000 in
set_option maxHeartbeats 6400000 in
theorem o_store {w : World} {vl : Value} (s : St) (o : Op3) (hx : Rd w vl s.L) (hk : s.kind = 4) (hm : mayB s = true) :
    Calls Try.prog 29 #[.agg #[.int .i64 s.kind, vl, .bool s.isSealed, .int .i64 s.to], .agg #[.int .i64 o.code, .int .i64 o.a, .int .i64 o.b]] w (StepP w vl (storeS s o)) := by
  obtain ⟨hev, h128⟩ := may_pairs (.inl hk) hm
  obtain ⟨k, L, b, t⟩ := s
  obtain ⟨co, oa, ob⟩ := o
  simp only at hx hk hev h128 hm ⊢
  subst hk
  obtain ⟨n, a, c, hvl, hn⟩ : ∃ n a c, vl = .slice a n c ∧ n = L.length := by
    obtain ⟨a, c, e, _⟩ := hx
    exact ⟨_, a, c, e, rfl⟩
  subst hvl
  have HX := Lib.hid hx
  have HN := Lib.hid hn
  have HS : Hid (∀ (r : Int) (W : World), Below w.heap.size w W → StepP w (.slice a n c) (⟨4, L, b, t⟩, r) (.returned (.tuple #[.agg #[.int .i64 4, .slice a n c, .bool b, .int .i64 t], .int .i64 r])) W) := fun r W hB => stepp_same HX.out hB
  have HH := fun W (hB : Below w.heap.size w W) => Lib.hid (o_has (w := W) (HX.out.below hB (Nat.le_refl _)) (by omega) hev oa)
  have HFi := fun W (hB : Below w.heap.size w W) => Lib.hid (o_find (w := W) (HX.out.below hB (Nat.le_refl _)) (by omega) oa)
  have HC := fun W (hB : Below w.heap.size w W) => Lib.hid (sl_clone (w := W) (HX.out.below hB (Nat.le_refl _)) (by omega))
  have HP := fun W (hB : Below w.heap.size w W) => Lib.hid (o_put (w := W) (HX.out.below hB (Nat.le_refl _)) (by omega) hev oa (cutI ob))
  have HCa := fun W => Lib.hid (o_cut' ob W)
  have hlt : foundB L oa = true → findI L oa + 1 < n := fun hf => by rw [hn]; exact found_lt hf hev
  have hn' : n ≤ 128 := by omega
  clear hx hm hn hev h128
  by_cases hc : co = 7 ∨ co = 6 ∨ co = 5
  · by_cases ha : 0 ≤ oa ∧ oa ≤ 255
    · obtain ⟨a1, a2⟩ := ha
      have hna : ¬ (oa < 0 ∨ 255 < oa) := by omega
      have n1 : ¬ oa < 0 := by omega
      have n2 : ¬ 255 < oa := by omega
      by_cases c6 : co = 6
      · by_cases hf : foundB L oa = true
        · have hr : storeS ⟨4, L, b, t⟩ ⟨co, oa, ob⟩ = ((⟨4, delL L oa, b, t⟩ : St), hasI L oa) := by simp [storeS, c6, hna, hf]
          rw [hr]
          subst c6
          have hl := hlt hf
          rw [hf] at HFi
          have hd : delL L oa = L.take (findI L oa) ++ L.drop (findI L oa + 2) := rfl
          rw [hd]
          generalize hasI L oa = had at *
          generalize findI L oa = j at *
          clear hr hd hf hlt HS HP HCa hc hna
          go_enter Try.func29, Try.ntmps29
          go_wp2_with fail
          refine (HH _ (below3 w _ _ _)).out.mono ?_
          rintro e w1 ⟨rfl, q, rfl⟩
          go_wp2_with fail
          refine (HFi _ (below3d w _ _ _ _)).out.mono ?_
          rintro e w1 ⟨rfl, q2, rfl⟩
          go_wp2_with fail
          refine (HC _ (below3d w _ _ _ _)).out.mono ?_
          rintro e w2 ⟨v2, rfl, hown, hfr, hb2'⟩
          rw [← HN.out] at hown
          obtain ⟨g, c2, rfl, g1, g2⟩ := own_open hown (by omega)
          have HO2 := Lib.hid hown
          have HFR := Lib.hid (hfr g rfl)
          have HB2 := Lib.hid hb2'
          clear hown hfr hb2' HC
          go_wp2_with fail
          refine (sl_delete HO2.out j (j + 2) (by omega) (by omega)).mono ?_
          rintro e w4 ⟨rfl, hown4, hk4⟩
          have hB4 := below_undrew ((HB2.out.mono (by simp : w.heap.size + 1 + 1 + 1 ≤ _)).trans (hk4.below (by rintro q rfl; have := HFR.out; simpa using this) (by have := HB2.out.size; simpa using this)))
          have hle : j + (n - (j + 2)) = n - 2 := by omega
          have HO4 := Lib.hid hown4
          clear hown4 hk4
          obtain ⟨b0, b1, b2, hz4, hb4⟩ := box_facts hB4
          have hk0 : w4.cell? ⟨w.heap.size, 0, none⟩ = some (.int .i64 4) := by rw [b0.cell]; rfl
          have hk1 : w4.cell? ⟨w.heap.size, 1, none⟩ = some (.slice a n c) := by rw [b0.cell]; rfl
          have hk2 : w4.cell? ⟨w.heap.size, 2, none⟩ = some (.bool b) := by rw [b0.cell]; rfl
          have hk3 : w4.cell? ⟨w.heap.size, 3, none⟩ = some (.int .i64 t) := by rw [b0.cell]; rfl
          have ho0 : w4.cell? ⟨w.heap.size + 1, 0, none⟩ = some (.int .i64 6) := by rw [b1.cell]; rfl
          have ho1 : w4.cell? ⟨w.heap.size + 1, 1, none⟩ = some (.int .i64 oa) := by rw [b1.cell]; rfl
          have ho2 : w4.cell? ⟨w.heap.size + 1, 2, none⟩ = some (.int .i64 ob) := by rw [b1.cell]; rfl
          have hr0 : w4.cell? ⟨w.heap.size + 1 + 1, 0, none⟩ = some (.int .i64 0) := by rw [b2.cell]; rfl
          have hr1 : w4.cell? ⟨w.heap.size + 1 + 1, 1, none⟩ = some (.slice none 0 0) := by rw [b2.cell]; rfl
          have hr2 : w4.cell? ⟨w.heap.size + 1 + 1, 2, none⟩ = some (.bool false) := by rw [b2.cell]; rfl
          have hr3 : w4.cell? ⟨w.heap.size + 1 + 1, 3, none⟩ = some (.int .i64 0) := by rw [b2.cell]; rfl
          have hfz0 := b0.frozen 1
          have hfr0 := b2.frozen 0
          have hfr1 := b2.frozen 1
          have hfr2 := b2.frozen 2
          have hfr3 := b2.frozen 3
          have B0 := Lib.hid b0
          have B2 := Lib.hid b2
          have HB4 := Lib.hid hb4
          clear b0 b1 b2 hB4 hb4
          go_wp2_with fail
          refine bodyPost_ret (v := .tuple #[.agg #[.int .i64 4, .slice (some ⟨g, 0, none⟩) (n - 2) c2, .bool b, .int .i64 t], .int .i64 had]) ?_ rfl ?_
          · simp [results, Try.results29, go_sem, hr0, hr1, hr2, hr3]
          · rw [hle] at HO4
            exact stepp_own B0.out B2.out (sets_keeps _ _ _ _ _ _ _ _) HB4.out (Nat.le_refl _) (by omega) HO4.out (fresh_some (by have := HFR.out; simp at this; omega)) _ _ _ _
        · have hf' : foundB L oa = false := by simpa using hf
          have hr : storeS ⟨4, L, b, t⟩ ⟨co, oa, ob⟩ = ((⟨4, L, b, t⟩ : St), hasI L oa) := by simp [storeS, c6, hna, hf]
          rw [hr]
          subst c6
          rw [hf'] at HFi
          generalize hasI L oa = had at *
          generalize findI L oa = j at *
          clear hr hf hf' hlt HC HP HCa hc hna
          go_enter Try.func29, Try.ntmps29
          go_wp2_with fail
          refine (HH _ (below3 w _ _ _)).out.mono ?_
          rintro e w1 ⟨rfl, q, rfl⟩
          go_wp2_with fail
          refine (HFi _ (below3d w _ _ _ _)).out.mono ?_
          rintro e w1 ⟨rfl, q2, rfl⟩
          go_wp2_with fail
          refine bodyPost_ret (v := .tuple #[.agg #[.int .i64 4, .slice a n c, .bool b, .int .i64 t], .int .i64 had]) ?_ rfl ?_
          · simp [results, Try.results29, go_sem]
          · exact HS.out _ _ (below_res (below3d w _ _ _ _) _ (by omega) _ _ _ _)
      · by_cases c5 : co = 5
        · subst c5
          cases hpb : putB L oa
          · have hr : storeS ⟨4, L, b, t⟩ ⟨5, oa, ob⟩ = ((⟨4, L, b, t⟩ : St), -2) := by simp [storeS, hna, hpb]
            rw [hr]
            rw [hpb] at HP
            exact o_store_no n1 n2 HX HH HFi HP HCa
          · have hr : storeS ⟨4, L, b, t⟩ ⟨5, oa, ob⟩ = ((⟨4, putL L oa (cutI ob), b, t⟩ : St), hasI L oa) := by simp [storeS, hna, hpb]
            rw [hr]
            rw [hpb] at HP
            exact o_store_yes n1 n2 HX HH HFi HP HCa
        · have hc7 : co = 7 := by omega
          have hr : storeS ⟨4, L, b, t⟩ ⟨co, oa, ob⟩ = ((⟨4, L, b, t⟩ : St), hasI L oa) := by simp [storeS, hc7, hna]
          rw [hr]
          subst hc7
          generalize foundB L oa = fd at *
          generalize hasI L oa = had at *
          generalize findI L oa = j at *
          clear hr hlt HC HP HCa hc hna c5 c6
          go_enter Try.func29, Try.ntmps29
          go_wp2_with fail
          refine (HH _ (below3 w _ _ _)).out.mono ?_
          rintro e w1 ⟨rfl, q, rfl⟩
          go_wp2_with fail
          refine (HFi _ (below3d w _ _ _ _)).out.mono ?_
          rintro e w1 ⟨rfl, q2, rfl⟩
          go_wp2_with fail
          refine bodyPost_ret (v := .tuple #[.agg #[.int .i64 4, .slice a n c, .bool b, .int .i64 t], .int .i64 had]) ?_ rfl ?_
          · simp [results, Try.results29, go_sem]
          · exact HS.out _ _ (below_res (below3d w _ _ _ _) _ (by omega) _ _ _ _)
    · have hna : oa < 0 ∨ 255 < oa := by omega
      have hr : storeS ⟨4, L, b, t⟩ ⟨co, oa, ob⟩ = ((⟨4, L, b, t⟩ : St), -1) := by simp [storeS, hc, hna]
      rw [hr]
      have h2 : oa < 0 ∨ (¬ oa < 0 ∧ 255 < oa) := by omega
      clear hr hlt HC HP HCa hna ha HH HFi
      rcases hc with rfl | rfl | rfl <;> rcases h2 with h1 | ⟨h1, h2⟩
      all_goals
        go_enter Try.func29, Try.ntmps29
        go_wp2_with fail
        refine bodyPost_ret (v := .tuple #[.agg #[.int .i64 4, .slice a n c, .bool b, .int .i64 t], .int .i64 (-1)]) ?_ rfl ?_
        · simp [results, Try.results29, go_sem]
        · exact HS.out _ _ (below3 w _ _ _)
  · have hr : storeS ⟨4, L, b, t⟩ ⟨co, oa, ob⟩ = ((⟨4, L, b, t⟩ : St), 0) := by simp [storeS, hc]
    rw [hr]
    have g7 : (co == 7) = false := by simp; omega
    have g6 : (co == 6) = false := by simp; omega
    have g5 : (co == 5) = false := by simp; omega
    clear hr hlt HC HP HCa hc HH HFi
    go_enter Try.func29, Try.ntmps29
    go_wp2_with fail
    refine bodyPost_ret (v := .tuple #[.agg #[.int .i64 4, .slice a n c, .bool b, .int .i64 t], .int .i64 0]) ?_ rfl ?_
    · simp [results, Try.results29, go_sem]
    · exact HS.out _ _ (below3 w _ _ _)
end Go.Proofs.Ytaoagaokocnehaa
/- Pairs in plain Lean: find, has, put, delete by recursion. -/
namespace Go.Proofs.Ytaoagaokocnehaa
set_option linter.unusedVariables false
set_option maxRecDepth 100000
set_option linter.unusedSimpArgs false

theorem foundB_cons (k v : Int) (r : List Int) (key : Int) : foundB (k :: v :: r) key = if k < key then foundB r key else k == key := by
  unfold foundB
  rw [findI]
  by_cases h : k < key
  · rw [if_pos h, if_pos h]
    have e : 2 + findI r key = findI r key + 1 + 1 := by omega
    simp only [e, List.length_cons, List.getD_cons_succ, Nat.add_lt_add_iff_right]
  · rw [if_neg h, if_neg h]
    simp
theorem foundB_nil (key : Int) : foundB [] key = false := by simp [foundB, findI]
theorem hasI_cons (k v : Int) (r : List Int) (key : Int) : hasI (k :: v :: r) key = if k < key then hasI r key else if k = key then v else -1 := by
  unfold hasI
  rw [foundB_cons, findI]
  by_cases h : k < key
  · rw [if_pos h, if_pos h, if_pos h]
    have e : 2 + findI r key = findI r key + 1 + 1 := by omega
    simp only [e, List.getD_cons_succ]
  · rw [if_neg h, if_neg h, if_neg h]
    simp only [List.getD_cons_zero, List.getD_cons_succ, Nat.zero_add]
    by_cases h2 : k = key
    · simp [h2]
    · simp [h2]
theorem hasI_nil (key : Int) : hasI [] key = -1 := by simp [hasI, foundB, findI]
theorem hasI_one (k key : Int) : hasI [k] key = if k < key then -1 else if k = key then 0 else -1 := by
  unfold hasI foundB
  rw [findI]
  by_cases h : k < key
  · simp [h]
  · simp [h]

/-- put by recursion. -/
def putR : List Int → Int → Int → List Int
  | k :: v :: r, key, n => if k < key then k :: v :: putR r key n else if k = key then k :: n :: r else key :: n :: k :: v :: r
  | _, key, n => [key, n]
def delR : List Int → Int → List Int
  | k :: v :: r, key => if k < key then k :: v :: delR r key else r
  | l, _ => l

theorem putG (key n : Int) : ∀ l : List Int, l.length % 2 = 0 → (if foundB l key then l.set (findI l key + 1) n else l.take (findI l key) ++ [key, n] ++ l.drop (findI l key)) = putR l key n
  | k :: v :: r, h => by
    have ih := putG key n r (by simp at h; omega)
    rw [foundB_cons, findI, putR]
    by_cases c : k < key
    · rw [if_pos c, if_pos c, if_pos c, ← ih]
      have e : 2 + findI r key = findI r key + 1 + 1 := by omega
      rw [e]
      split <;> simp
    · rw [if_neg c, if_neg c, if_neg c]
      by_cases h2 : k = key
      · simp [h2]
      · simp [h2]
  | [k], h => by simp at h
  | [], _ => by simp [foundB_nil, findI, putR]
theorem putL_eq {l : List Int} {key n : Int} (he : l.length % 2 = 0) (hb : putB l key = true) : putL l key n = putR l key n := by
  rw [← putG key n l he]
  unfold putL
  unfold putB at hb
  by_cases hf : foundB l key = true
  · rw [if_pos hf, if_pos hf]
  · rw [if_neg hf, if_neg hf]
    have : ¬ 128 ≤ l.length := by simp [hf] at hb; omega
    rw [if_neg this]
theorem delL_eq {l : List Int} {key : Int} (he : l.length % 2 = 0) : delL l key = delR l key := by
  unfold delL
  match l, he with
  | k :: v :: r, h =>
    have ih := delL_eq (l := r) (key := key) (by simp at h; omega)
    unfold delL at ih
    rw [findI, delR]
    by_cases c : k < key
    · rw [if_pos c, if_pos c, ← ih]
      have e : 2 + findI r key = findI r key + 1 + 1 := by omega
      simp [e]
    · rw [if_neg c, if_neg c]
      simp
  | [k], h => simp at h
  | [], _ => rfl
theorem putR_length (key n : Int) : ∀ l : List Int, l.length % 2 = 0 → (putR l key n).length = if foundB l key then l.length else l.length + 2
  | k :: v :: r, h => by
    have ih := putR_length key n r (by simp at h; omega)
    rw [foundB_cons, putR]
    by_cases c : k < key
    · rw [if_pos c, if_pos c]
      simp only [List.length_cons, ih]
      split <;> omega
    · rw [if_neg c, if_neg c]
      by_cases h2 : k = key
      · simp [h2]
      · simp [h2]
  | [k], h => by simp at h
  | [], _ => by simp [foundB_nil, putR]
theorem putR_even {key n : Int} {l : List Int} (he : l.length % 2 = 0) : (putR l key n).length % 2 = 0 := by
  rw [putR_length key n l he]
  split <;> omega
theorem found_putR (key n key2 : Int) : ∀ l : List Int, l.length % 2 = 0 → foundB (putR l key n) key2 = (key2 == key || foundB l key2)
  | k :: v :: r, h => by
    have ih := found_putR key n key2 r (by simp at h; omega)
    rw [putR, foundB_cons]
    by_cases c : k < key
    · rw [if_pos c, foundB_cons, ih]
      by_cases c2 : k < key2
      · rw [if_pos c2, if_pos c2]
      · rw [if_neg c2, if_neg c2]
        have : ¬ key2 = key := by omega
        simp [this]
    · rw [if_neg c]
      by_cases h2 : k = key
      · subst h2
        rw [if_pos rfl, foundB_cons]
        by_cases c2 : k < key2
        · rw [if_pos c2]; have : ¬ key2 = k := by omega
          simp [this]
        · rw [if_neg c2]
          by_cases h3 : k = key2 <;> simp [h3]; intro h4; exact absurd h4.symm h3
      · rw [if_neg h2, foundB_cons, foundB_cons]
        by_cases c2 : key < key2
        · rw [if_pos c2]; have : ¬ key2 = key := by omega
          simp [this]
        · rw [if_neg c2]
          by_cases h3 : key = key2
          · simp [h3]
          · have h4 : ¬ k < key2 := by omega
            have h5 : ¬ k = key2 := by omega
            have h6 : ¬ key2 = key := by omega
            rw [if_neg h4, beq_eq_false_iff_ne.2 h3, beq_eq_false_iff_ne.2 h5, beq_eq_false_iff_ne.2 h6]; rfl
  | [k], h => by simp at h
  | [], _ => by
    rw [putR, foundB_cons, foundB_nil]
    · by_cases c : key < key2
      · have : ¬ key2 = key := by omega
        simp [c, this]
      · by_cases h3 : key = key2 <;> simp [c, h3]; rw [beq_eq_false_iff_ne.2 h3, beq_eq_false_iff_ne.2 (fun e => h3 e.symm)]
    · simp
theorem has_putR (key n key2 : Int) : ∀ l : List Int, l.length % 2 = 0 → hasI (putR l key n) key2 = if key2 = key then n else hasI l key2
  | k :: v :: r, h => by
    have ih := has_putR key n key2 r (by simp at h; omega)
    rw [putR, hasI_cons]
    by_cases c : k < key
    · rw [if_pos c, hasI_cons, ih]
      by_cases c2 : k < key2
      · rw [if_pos c2, if_pos c2]
      · rw [if_neg c2, if_neg c2]
        have : ¬ key2 = key := by omega
        simp [this]
    · rw [if_neg c]
      by_cases h2 : k = key
      · subst h2
        rw [if_pos rfl, hasI_cons]
        by_cases c2 : k < key2
        · rw [if_pos c2]; have : ¬ key2 = k := by omega
          simp [this, c2]
        · rw [if_neg c2]
          by_cases h3 : k = key2
          · simp [h3]
          · have : ¬ key2 = k := by omega
            simp [h3, this, c2]
      · rw [if_neg h2, hasI_cons, hasI_cons]
        by_cases c2 : key < key2
        · rw [if_pos c2]; have : ¬ key2 = key := by omega
          simp [this]
        · rw [if_neg c2]
          by_cases h3 : key = key2
          · simp [h3]
          · have h4 : ¬ k < key2 := by omega
            have h5 : ¬ k = key2 := by omega
            have h6 : ¬ key2 = key := by omega
            simp [h3, h4, h5, h6]
  | [k], h => by simp at h
  | [], _ => by
    rw [putR, hasI_cons, hasI_nil]
    · by_cases c : key < key2
      · have : ¬ key2 = key := by omega
        simp [c, this]
      · by_cases h3 : key = key2
        · simp [h3]
        · have : ¬ key2 = key := by omega
          simp [c, h3, this]
    · simp
theorem has_unfound {l : List Int} {key : Int} (h : foundB l key = false) : hasI l key = -1 := by unfold hasI; rw [h]; rfl
end Go.Proofs.Ytaoagaokocnehaa
/- Package objs: the walk of move. -/
namespace Go.Proofs.Ytaoagaokocnehaa
set_option linter.unusedVariables false
set_option maxRecDepth 100000
set_option linter.unusedSimpArgs false
open Go.RowKit

theorem pairs_has (least : Int) (hle : least ≤ 0) : ∀ (l : List Int) (last : Int), pairsGo least last l = true → ∀ key, (least ≤ hasI l key ∧ hasI l key ≤ 1099511627776) ∨ hasI l key = -1
  | k :: v :: r, last, h, key => by
    rw [pairsGo] at h
    split at h
    · simp at h
    · have ih := pairs_has least hle r k h key
      rw [hasI_cons]
      split
      · exact ih
      · split <;> omega
  | [k], last, h, key => by rw [hasI_one]; split <;> (try split) <;> omega
  | [], last, h, key => by rw [hasI_nil]; omega
theorem may_ledger {s : St} (hk : s.kind = 5) (hm : mayB s = true) (key : Int) : -1 ≤ hasI s.L key ∧ hasI s.L key ≤ 1099511627776 := by
  unfold mayB at hm
  split at hm
  · simp at hm
  · simp only [hk] at hm
    simp [pairsB] at hm
    have := pairs_has 0 (by omega) s.L (-1) hm.1 key
    omega

theorem quiet_at {P : Program} {f : FuncId} {args : Array Value} {w : World} {n x : Nat} {v : Value}
    (h : Calls P f args (w.drewN (n + x)) fun e w' => e = .returned v ∧ ∃ q, w' = (w.drewN (n + x)).drewN q) : Calls P f args (w.drewN (n + x)) fun e w'' => e = .returned v ∧ ∃ m, w'' = w.drewN (n + m) :=
  h.mono fun _ _ ⟨he, m, hm⟩ => ⟨he, x + m, by rw [hm, World.drewN_drewN, Nat.add_assoc]⟩

set_option maxRecDepth 100000 in
set_option maxHeartbeats 6400000 in
theorem o_move_no {w : World} {n c : Nat} {a : Option Addr} {L : List Int} {b : Bool} {t oa ob : Int} (h : oa < 0 ∨ 65536 ≤ oa ∨ ob < 0) (HX : Hid (Rd w (.slice a n c) L)) :
    Calls Try.prog 47 #[.agg #[.int .i64 5, .slice a n c, .bool b, .int .i64 t], .agg #[.int .i64 9, .int .i64 oa, .int .i64 ob]] w (StepP w (.slice a n c) ((⟨5, L, b, t⟩ : St), 0)) := by
  have h2 : oa < 0 ∨ (¬ oa < 0 ∧ 65536 ≤ oa) ∨ (¬ oa < 0 ∧ ¬ 65536 ≤ oa ∧ ob < 0) := by omega
  clear h
  rcases h2 with h | ⟨h1, h2⟩ | ⟨h1, h2, h3⟩
  all_goals
    go_enter Try.func47, Try.ntmps47
    go_wp2_with fail
    refine bodyPost_ret (v := .tuple #[.agg #[.int .i64 5, .slice a n c, .bool b, .int .i64 t], .int .i64 0]) ?_ rfl ?_
    · simp [results, Try.results47, go_sem]
    · exact stepp_same HX.out (below3 w _ _ _)

set_option maxRecDepth 100000 in
set_option maxHeartbeats 6400000 in
theorem o_move_less {w : World} {n c : Nat} {a : Option Addr} {L : List Int} {b : Bool} {t oa ob f g hf hg : Int} (n1 : 0 ≤ oa) (n2 : oa < 65536) (n3 : 0 ≤ ob) (ef : oa / 256 = f) (eg : oa % 256 = g) (HX : Hid (Rd w (.slice a n c) L))
    (HA : ∀ W, Below w.heap.size w W → Hid (Calls Try.prog 44 #[.slice a n c, .int .i64 f] W fun e w' => e = .returned (.int .i64 hf) ∧ ∃ q, w' = W.drewN q))
    (HB : ∀ W, Below w.heap.size w W → Hid (Calls Try.prog 44 #[.slice a n c, .int .i64 g] W fun e w' => e = .returned (.int .i64 hg) ∧ ∃ q, w' = W.drewN q))
    (hl : hf < ob) :
    Calls Try.prog 47 #[.agg #[.int .i64 5, .slice a n c, .bool b, .int .i64 t], .agg #[.int .i64 9, .int .i64 oa, .int .i64 ob]] w (StepP w (.slice a n c) ((⟨5, L, b, t⟩ : St), 0)) := by
  have m1 : ¬ oa < 0 := by omega
  have m2 : ¬ 65536 ≤ oa := by omega
  have m3 : ¬ ob < 0 := by omega
  go_enter Try.func47, Try.ntmps47
  go_wp2_with fail
  go_quiet (fail)
  go_wp2_with fail
  go_quiet (first | (go_at_call 44; first | with_reducible exact quiet_at (HA _ (below3d w _ _ _ _)).out | with_reducible exact quiet_at (HB _ (below3d w _ _ _ _)).out))
  go_wp2_with fail
  refine bodyPost_ret (v := .tuple #[.agg #[.int .i64 5, .slice a n c, .bool b, .int .i64 t], .int .i64 0]) ?_ rfl ?_
  · simp [results, Try.results47, go_sem]
  · exact stepp_same HX.out (below_res (below3d w _ _ _ _) _ (by omega) _ _ _ _)

set_option maxRecDepth 100000 in
set_option maxHeartbeats 6400000 in
theorem o_move_same {w : World} {n c : Nat} {a : Option Addr} {L : List Int} {b : Bool} {t oa ob f g hf hg : Int} (n1 : 0 ≤ oa) (n2 : oa < 65536) (n3 : 0 ≤ ob) (ef : oa / 256 = f) (eg : oa % 256 = g) (HX : Hid (Rd w (.slice a n c) L))
    (HA : ∀ W, Below w.heap.size w W → Hid (Calls Try.prog 44 #[.slice a n c, .int .i64 f] W fun e w' => e = .returned (.int .i64 hf) ∧ ∃ q, w' = W.drewN q))
    (HB : ∀ W, Below w.heap.size w W → Hid (Calls Try.prog 44 #[.slice a n c, .int .i64 g] W fun e w' => e = .returned (.int .i64 hg) ∧ ∃ q, w' = W.drewN q))
    (hl : ¬ hf < ob) (hfg : (f == g) = true) :
    Calls Try.prog 47 #[.agg #[.int .i64 5, .slice a n c, .bool b, .int .i64 t], .agg #[.int .i64 9, .int .i64 oa, .int .i64 ob]] w (StepP w (.slice a n c) ((⟨5, L, b, t⟩ : St), 1)) := by
  have m1 : ¬ oa < 0 := by omega
  have m2 : ¬ 65536 ≤ oa := by omega
  have m3 : ¬ ob < 0 := by omega
  go_enter Try.func47, Try.ntmps47
  go_wp2_with fail
  go_quiet (fail)
  go_wp2_with fail
  go_quiet (first | (go_at_call 44; first | with_reducible exact quiet_at (HA _ (below3d w _ _ _ _)).out | with_reducible exact quiet_at (HB _ (below3d w _ _ _ _)).out))
  go_wp2_with fail
  refine bodyPost_ret (v := .tuple #[.agg #[.int .i64 5, .slice a n c, .bool b, .int .i64 t], .int .i64 1]) ?_ rfl ?_
  · simp [results, Try.results47, go_sem]
  · exact stepp_same HX.out (below_res (below3d w _ _ _ _) _ (by omega) _ _ _ _)

set_option maxRecDepth 100000 in
set_option maxHeartbeats 6400000 in
theorem o_move_full {w : World} {n c : Nat} {a : Option Addr} {L L1 : List Int} {b : Bool} {t oa ob f g hf hg : Int} (n1 : 0 ≤ oa) (n2 : oa < 65536) (n3 : 0 ≤ ob) (ef : oa / 256 = f) (eg : oa % 256 = g) (HX : Hid (Rd w (.slice a n c) L))
    (HA : ∀ W, Below w.heap.size w W → Hid (Calls Try.prog 44 #[.slice a n c, .int .i64 f] W fun e w' => e = .returned (.int .i64 hf) ∧ ∃ q, w' = W.drewN q))
    (HB : ∀ W, Below w.heap.size w W → Hid (Calls Try.prog 44 #[.slice a n c, .int .i64 g] W fun e w' => e = .returned (.int .i64 hg) ∧ ∃ q, w' = W.drewN q))
    (hl : ¬ hf < ob) (hfg : (f == g) = false) (hr : -1 ≤ hg) (hr1 : hg ≤ 1099511627776) (hr2 : hf ≤ 1099511627776) (y : Int) (hy : (0 ≤ hg ∧ hg + ob = y) ∨ (¬ 0 ≤ hg ∧ ob = y)) (ok : Bool) (hok : ok = false ∨ (ok = true ∧ 1099511627776 < y))
    (HP : ∀ W, Below w.heap.size w W → Hid (Calls Try.prog 46 #[.slice a n c, .int .i64 g, .int .i64 y] W (PutP W L1 ok))) :
    Calls Try.prog 47 #[.agg #[.int .i64 5, .slice a n c, .bool b, .int .i64 t], .agg #[.int .i64 9, .int .i64 oa, .int .i64 ob]] w (StepP w (.slice a n c) ((⟨5, L, b, t⟩ : St), 0)) := by
  have m1 : ¬ oa < 0 := by omega
  have m2 : ¬ 65536 ≤ oa := by omega
  have m3 : ¬ ob < 0 := by omega
  rcases hy with ⟨h0, hy⟩ | ⟨h0, rfl⟩ <;> rcases hok with rfl | ⟨rfl, hok⟩ <;> try (exfalso; omega)
  all_goals
    go_enter Try.func47, Try.ntmps47
    go_wp2_with fail
    go_quiet (fail)
    go_wp2_with fail
    go_quiet (first | (go_at_call 44; first | with_reducible exact quiet_at (HA _ (below3d w _ _ _ _)).out | with_reducible exact quiet_at (HB _ (below3d w _ _ _ _)).out))
    go_wp2_with fail
    refine (HP _ (below3d w _ _ _ _)).out.mono ?_
    rintro e w4 ⟨v4, rfl, hrd, how, hb4'⟩
    obtain ⟨a4, c4, rfl, _⟩ := id hrd
    have HB' := Lib.hid hb4'
    clear hb4' hrd how
    obtain ⟨b0, b1, b2, hz4, hb4⟩ := box_facts (k := 5) (t := t) (co := 9) (oa := oa) (ob := ob) (vl := .slice a n c) (b := b) (below_undrew (HB'.out.mono (by simp : w.heap.size + 1 + 1 + 1 ≤ _)))
    have hk0 : w4.cell? ⟨w.heap.size, 0, none⟩ = some (.int .i64 5) := by rw [b0.cell]; rfl
    have hk1 : w4.cell? ⟨w.heap.size, 1, none⟩ = some (.slice a n c) := by rw [b0.cell]; rfl
    have hk2 : w4.cell? ⟨w.heap.size, 2, none⟩ = some (.bool b) := by rw [b0.cell]; rfl
    have hk3 : w4.cell? ⟨w.heap.size, 3, none⟩ = some (.int .i64 t) := by rw [b0.cell]; rfl
    have ho0 : w4.cell? ⟨w.heap.size + 1, 0, none⟩ = some (.int .i64 9) := by rw [b1.cell]; rfl
    have ho1 : w4.cell? ⟨w.heap.size + 1, 1, none⟩ = some (.int .i64 oa) := by rw [b1.cell]; rfl
    have ho2 : w4.cell? ⟨w.heap.size + 1, 2, none⟩ = some (.int .i64 ob) := by rw [b1.cell]; rfl
    have hr0 : w4.cell? ⟨w.heap.size + 1 + 1, 0, none⟩ = some (.int .i64 0) := by rw [b2.cell]; rfl
    have hr1 : w4.cell? ⟨w.heap.size + 1 + 1, 1, none⟩ = some (.slice none 0 0) := by rw [b2.cell]; rfl
    have hr2 : w4.cell? ⟨w.heap.size + 1 + 1, 2, none⟩ = some (.bool false) := by rw [b2.cell]; rfl
    have hr3 : w4.cell? ⟨w.heap.size + 1 + 1, 3, none⟩ = some (.int .i64 0) := by rw [b2.cell]; rfl
    have hfz0 := b0.frozen 1
    have hfr0 := b2.frozen 0
    have hfr1 := b2.frozen 1
    have hfr2 := b2.frozen 2
    have hfr3 := b2.frozen 3
    have B2 := Lib.hid b2
    have HB4 := Lib.hid hb4
    clear b0 b1 b2 hb4 HB'
    go_wp2_with fail
    refine bodyPost_ret (v := .tuple #[.agg #[.int .i64 5, .slice a n c, .bool b, .int .i64 t], .int .i64 0]) ?_ rfl ?_
    · simp [results, Try.results47, go_sem, hr0, hr1, hr2, hr3]
    · exact stepp_same HX.out (below_res HB4.out _ (by omega) _ _ _ _)

set_option maxRecDepth 100000 in
set_option maxHeartbeats 6400000 in
theorem o_move_yes {w : World} {n c : Nat} {a : Option Addr} {L L1 L2 : List Int} {b : Bool} {t oa ob f g hf hg : Int} (n1 : 0 ≤ oa) (n2 : oa < 65536) (n3 : 0 ≤ ob) (ef : oa / 256 = f) (eg : oa % 256 = g) (HX : Hid (Rd w (.slice a n c) L))
    (HA : ∀ W, Below w.heap.size w W → Hid (Calls Try.prog 44 #[.slice a n c, .int .i64 f] W fun e w' => e = .returned (.int .i64 hf) ∧ ∃ q, w' = W.drewN q))
    (HB : ∀ W, Below w.heap.size w W → Hid (Calls Try.prog 44 #[.slice a n c, .int .i64 g] W fun e w' => e = .returned (.int .i64 hg) ∧ ∃ q, w' = W.drewN q))
    (hl : ¬ hf < ob) (hfg : (f == g) = false) (hr : -1 ≤ hg) (hr1 : hg ≤ 1099511627776) (hr2 : hf ≤ 1099511627776) (y : Int) (hy : (0 ≤ hg ∧ hg + ob = y) ∨ (¬ 0 ≤ hg ∧ ob = y)) (hok : ¬ 1099511627776 < y)
    (HP : ∀ W, Below w.heap.size w W → Hid (Calls Try.prog 46 #[.slice a n c, .int .i64 g, .int .i64 y] W (PutP W L1 true)))
    (HP2 : ∀ W v', Rd W v' L1 → Hid (Calls Try.prog 46 #[v', .int .i64 f, .int .i64 (hf - ob)] W (PutP W L2 true))) :
    Calls Try.prog 47 #[.agg #[.int .i64 5, .slice a n c, .bool b, .int .i64 t], .agg #[.int .i64 9, .int .i64 oa, .int .i64 ob]] w (StepP w (.slice a n c) ((⟨5, L2, b, t⟩ : St), 1)) := by
  have m1 : ¬ oa < 0 := by omega
  have m2 : ¬ 65536 ≤ oa := by omega
  have m3 : ¬ ob < 0 := by omega
  rcases hy with ⟨h0, hy⟩ | ⟨h0, rfl⟩
  all_goals
    go_enter Try.func47, Try.ntmps47
    go_wp2_with fail
    go_quiet (fail)
    go_wp2_with fail
    go_quiet (first | (go_at_call 44; first | with_reducible exact quiet_at (HA _ (below3d w _ _ _ _)).out | with_reducible exact quiet_at (HB _ (below3d w _ _ _ _)).out))
    go_wp2_with fail
    refine (HP _ (below3d w _ _ _ _)).out.mono ?_
    rintro e w4 ⟨v4, rfl, hrd, how, hb4'⟩
    obtain ⟨a4, c4, rfl, _⟩ := id hrd
    have HB' := Lib.hid hb4'
    have HR' := Lib.hid hrd
    clear hb4' hrd how
    obtain ⟨b0, b1, b2, hz4, hb4⟩ := box_facts (k := 5) (t := t) (co := 9) (oa := oa) (ob := ob) (vl := .slice a n c) (b := b) (below_undrew (HB'.out.mono (by simp : w.heap.size + 1 + 1 + 1 ≤ _)))
    have hk0 : w4.cell? ⟨w.heap.size, 0, none⟩ = some (.int .i64 5) := by rw [b0.cell]; rfl
    have hk1 : w4.cell? ⟨w.heap.size, 1, none⟩ = some (.slice a n c) := by rw [b0.cell]; rfl
    have hk2 : w4.cell? ⟨w.heap.size, 2, none⟩ = some (.bool b) := by rw [b0.cell]; rfl
    have hk3 : w4.cell? ⟨w.heap.size, 3, none⟩ = some (.int .i64 t) := by rw [b0.cell]; rfl
    have ho0 : w4.cell? ⟨w.heap.size + 1, 0, none⟩ = some (.int .i64 9) := by rw [b1.cell]; rfl
    have ho1 : w4.cell? ⟨w.heap.size + 1, 1, none⟩ = some (.int .i64 oa) := by rw [b1.cell]; rfl
    have ho2 : w4.cell? ⟨w.heap.size + 1, 2, none⟩ = some (.int .i64 ob) := by rw [b1.cell]; rfl
    have hr0 : w4.cell? ⟨w.heap.size + 1 + 1, 0, none⟩ = some (.int .i64 0) := by rw [b2.cell]; rfl
    have hr1 : w4.cell? ⟨w.heap.size + 1 + 1, 1, none⟩ = some (.slice none 0 0) := by rw [b2.cell]; rfl
    have hr2 : w4.cell? ⟨w.heap.size + 1 + 1, 2, none⟩ = some (.bool false) := by rw [b2.cell]; rfl
    have hr3 : w4.cell? ⟨w.heap.size + 1 + 1, 3, none⟩ = some (.int .i64 0) := by rw [b2.cell]; rfl
    have hfz0 := b0.frozen 1
    have hfr0 := b2.frozen 0
    have hfr1 := b2.frozen 1
    have hfr2 := b2.frozen 2
    have hfr3 := b2.frozen 3
    have B0 := Lib.hid b0
    have B1 := Lib.hid b1
    have B2 := Lib.hid b2
    have HB4 := Lib.hid hb4
    have hz4' := Lib.hid hz4
    clear b0 b1 b2 hb4 HB'
    go_wp2_with fail
    refine (HP2 _ _ HR'.out).out.mono ?_
    rintro e w5 ⟨v5, rfl, hrd, how, hb5'⟩
    obtain ⟨a5, c5, rfl, _⟩ := id hrd
    have HO5 := Lib.hid (how rfl).1
    have HF5 := Lib.hid ((how rfl).2.mono HB4.out.size)
    have HB5 := Lib.hid (HB4.out.trans (hb5'.mono HB4.out.size))
    have HC0 := Lib.hid (B0.out.below hb5' B0.out.lt)
    have HC1 := Lib.hid (B1.out.below hb5' B1.out.lt)
    have HC2 := Lib.hid (B2.out.below hb5' B2.out.lt)
    have hz5 : w.heap.size + 1 + 1 + 1 ≤ w5.heap.size := Nat.le_trans hz4'.out hb5'.size
    clear hrd how hb5' B0 B1 B2 HB4 HR' hz4 hz4' hk0 hk1 hk2 hk3 ho0 ho1 ho2 hr0 hr1 hr2 hr3 hfz0 hfr0 hfr1 hfr2 hfr3
    have b0 := HC0.out
    have b1 := HC1.out
    have b2 := HC2.out
    have hk0 : w5.cell? ⟨w.heap.size, 0, none⟩ = some (.int .i64 5) := by rw [b0.cell]; rfl
    have hk1 : w5.cell? ⟨w.heap.size, 1, none⟩ = some (.slice a n c) := by rw [b0.cell]; rfl
    have hk2 : w5.cell? ⟨w.heap.size, 2, none⟩ = some (.bool b) := by rw [b0.cell]; rfl
    have hk3 : w5.cell? ⟨w.heap.size, 3, none⟩ = some (.int .i64 t) := by rw [b0.cell]; rfl
    have ho0 : w5.cell? ⟨w.heap.size + 1, 0, none⟩ = some (.int .i64 9) := by rw [b1.cell]; rfl
    have ho1 : w5.cell? ⟨w.heap.size + 1, 1, none⟩ = some (.int .i64 oa) := by rw [b1.cell]; rfl
    have ho2 : w5.cell? ⟨w.heap.size + 1, 2, none⟩ = some (.int .i64 ob) := by rw [b1.cell]; rfl
    have hr0 : w5.cell? ⟨w.heap.size + 1 + 1, 0, none⟩ = some (.int .i64 0) := by rw [b2.cell]; rfl
    have hr1 : w5.cell? ⟨w.heap.size + 1 + 1, 1, none⟩ = some (.slice none 0 0) := by rw [b2.cell]; rfl
    have hr2 : w5.cell? ⟨w.heap.size + 1 + 1, 2, none⟩ = some (.bool false) := by rw [b2.cell]; rfl
    have hr3 : w5.cell? ⟨w.heap.size + 1 + 1, 3, none⟩ = some (.int .i64 0) := by rw [b2.cell]; rfl
    have hfz0 := b0.frozen 1
    have hfr0 := b2.frozen 0
    have hfr1 := b2.frozen 1
    have hfr2 := b2.frozen 2
    have hfr3 := b2.frozen 3
    clear b0 b1 b2
    go_wp2_with fail
    refine bodyPost_ret (v := .tuple #[.agg #[.int .i64 5, .slice a5 L2.length c5, .bool b, .int .i64 t], .int .i64 1]) ?_ rfl ?_
    · simp [results, Try.results47, go_sem, hr0, hr1, hr2, hr3]
    · exact stepp_own HC0.out HC2.out (sets_keeps _ _ _ _ _ _ _ _) HB5.out (Nat.le_refl _) (by omega) HO5.out HF5.out _ _ _ _

theorem o_move {w : World} {vl : Value} (s : St) (o : Op3) (hx : Rd w vl s.L) (hk : s.kind = 5) (hc : o.code = 9) (hm : mayB s = true) :
    Calls Try.prog 47 #[.agg #[.int .i64 s.kind, vl, .bool s.isSealed, .int .i64 s.to], .agg #[.int .i64 o.code, .int .i64 o.a, .int .i64 o.b]] w (StepP w vl (moveS s o)) := by
  obtain ⟨hev, h128⟩ := may_pairs (.inr hk) hm
  have hbd := may_ledger hk hm
  obtain ⟨k, L, b, t⟩ := s
  obtain ⟨co, oa, ob⟩ := o
  simp only at hx hk hc hev h128 hm hbd ⊢
  subst hk
  subst hc
  have HX := Lib.hid hx
  obtain ⟨a, c, rfl, _⟩ := id hx
  have HH := fun (key : Int) W (hB : Below w.heap.size w W) => Lib.hid (o_has (w := W) (HX.out.below hB (Nat.le_refl _)) (by omega) hev key)
  by_cases h0 : oa < 0 ∨ 65536 ≤ oa ∨ ob < 0
  · have hr : moveS ⟨5, L, b, t⟩ ⟨9, oa, ob⟩ = ((⟨5, L, b, t⟩ : St), 0) := by simp [moveS, h0]
    rw [hr]
    exact o_move_no h0 HX
  have n1 : 0 ≤ oa := by omega
  have n2 : oa < 65536 := by omega
  have n3 : 0 ≤ ob := by omega
  by_cases h1 : hasI L (oa / 256) < ob
  · have hr : moveS ⟨5, L, b, t⟩ ⟨9, oa, ob⟩ = ((⟨5, L, b, t⟩ : St), 0) := by simp [moveS, h0, h1]
    rw [hr]
    exact o_move_less n1 n2 n3 rfl rfl HX (HH _) (HH _) h1
  by_cases h2 : oa / 256 = oa % 256
  · have hr : moveS ⟨5, L, b, t⟩ ⟨9, oa, ob⟩ = ((⟨5, L, b, t⟩ : St), 1) := by unfold moveS; simp only; rw [if_neg h0, if_neg h1, if_pos h2]
    rw [hr]
    exact o_move_same n1 n2 n3 rfl rfl HX (HH _) (HH _) h1 (by simp [h2])
  have h2' : (oa / 256 == oa % 256) = false := by simpa using h2
  have hP := fun W (hB : Below w.heap.size w W) => Lib.hid (o_put (w := W) (HX.out.below hB (Nat.le_refl _)) (by omega) hev (oa % 256) (max (hasI L (oa % 256)) 0 + ob))
  have hy : (0 ≤ hasI L (oa % 256) ∧ hasI L (oa % 256) + ob = max (hasI L (oa % 256)) 0 + ob) ∨ (¬ 0 ≤ hasI L (oa % 256) ∧ ob = max (hasI L (oa % 256)) 0 + ob) := by omega
  by_cases h3 : putB L (oa % 256) = false ∨ 1099511627776 < max (hasI L (oa % 256)) 0 + ob
  · have hr : moveS ⟨5, L, b, t⟩ ⟨9, oa, ob⟩ = ((⟨5, L, b, t⟩ : St), 0) := by unfold moveS; simp only; rw [if_neg h0, if_neg h1, if_neg h2, if_pos h3]
    rw [hr]
    exact o_move_full n1 n2 n3 rfl rfl HX (HH _) (HH _) h1 h2' (hbd _).1 (hbd _).2 (hbd _).2 _ hy _ (by cases hb : putB L (oa % 256) <;> simp [hb] at h3 ⊢; exact h3) hP
  · have hr : moveS ⟨5, L, b, t⟩ ⟨9, oa, ob⟩ = ((⟨5, putL (putL L (oa % 256) (max (hasI L (oa % 256)) 0 + ob)) (oa / 256) (hasI L (oa / 256) - ob), b, t⟩ : St), 1) := by unfold moveS; simp only; rw [if_neg h0, if_neg h1, if_neg h2, if_neg h3]
    rw [hr]
    have hb : putB L (oa % 256) = true := by simp only [not_or] at h3; simpa using h3.1
    rw [hb] at hP
    have hfd : foundB L (oa / 256) = true := by
      cases hq : foundB L (oa / 256)
      · have := has_unfound hq; omega
      · rfl
    have e1 := putL_eq (n := max (hasI L (oa % 256)) 0 + ob) hev hb
    have hev2 : (putL L (oa % 256) (max (hasI L (oa % 256)) 0 + ob)).length % 2 = 0 := by rw [e1]; exact putR_even hev
    have hfd2 : foundB (putL L (oa % 256) (max (hasI L (oa % 256)) 0 + ob)) (oa / 256) = true := by rw [e1, found_putR _ _ _ _ hev, hfd, Bool.or_true]
    have hlen2 : (putL L (oa % 256) (max (hasI L (oa % 256)) 0 + ob)).length ≤ 1099511627776 := by rw [e1, putR_length _ _ _ hev]; split <;> omega
    have hb2 : putB (putL L (oa % 256) (max (hasI L (oa % 256)) 0 + ob)) (oa / 256) = true := by unfold putB; rw [hfd2]; rfl
    refine o_move_yes n1 n2 n3 rfl rfl HX (HH _) (HH _) h1 h2' (hbd _).1 (hbd _).2 (hbd _).2 _ hy (by simp only [not_or] at h3; exact h3.2) hP fun W v' hv' => Lib.hid ?_
    have := o_put (w := W) hv' hlen2 hev2 (oa / 256) (hasI L (oa / 256) - ob)
    rw [hb2] at this
    exact this
end Go.Proofs.Ytaoagaokocnehaa
/- Package objs: the walk of ledger. -/
namespace Go.Proofs.Ytaoagaokocnehaa
set_option linter.unusedVariables false
set_option maxRecDepth 100000
set_option linter.unusedSimpArgs false
open Go.RowKit

set_option maxRecDepth 100000 in
set_option maxHeartbeats 6400000 in
theorem o_ledger_no {w : World} {n c : Nat} {a : Option Addr} {L : List Int} {b : Bool} {t co oa ob r : Int} (g9 : (co == 9) = false)
    (h : ((co == 7) = false ∧ (co != 7) = true ∧ (co != 8) = true ∧ r = 0) ∨ (co = 7 ∧ (oa < 0 ∨ (¬ oa < 0 ∧ 255 < oa)) ∧ r = -1) ∨ (co = 8 ∧ (oa < 0 ∨ (¬ oa < 0 ∧ 255 < oa) ∨ (¬ oa < 0 ∧ ¬ 255 < oa ∧ ob < 0)) ∧ r = -1)) (HX : Hid (Rd w (.slice a n c) L)) :
    Calls Try.prog 30 #[.agg #[.int .i64 5, .slice a n c, .bool b, .int .i64 t], .agg #[.int .i64 co, .int .i64 oa, .int .i64 ob]] w (StepP w (.slice a n c) ((⟨5, L, b, t⟩ : St), r)) := by
  rcases h with ⟨g7, u7, u8, rfl⟩ | ⟨rfl, h | ⟨h1, h2⟩, rfl⟩ | ⟨rfl, h | ⟨h1, h2⟩ | ⟨h1, h2, h3⟩, rfl⟩
  · go_enter Try.func30, Try.ntmps30
    go_wp2_with fail
    refine bodyPost_ret (v := .tuple #[.agg #[.int .i64 5, .slice a n c, .bool b, .int .i64 t], .int .i64 0]) ?_ rfl ?_
    · simp [results, Try.results30, go_sem]
    · exact stepp_same HX.out (below3 w _ _ _)
  all_goals
    clear g9
    go_enter Try.func30, Try.ntmps30
    go_wp2_with fail
    refine bodyPost_ret (v := .tuple #[.agg #[.int .i64 5, .slice a n c, .bool b, .int .i64 t], .int .i64 (-1)]) ?_ rfl ?_
    · simp [results, Try.results30, go_sem]
    · exact stepp_same HX.out (below3 w _ _ _)

set_option maxRecDepth 100000 in
set_option maxHeartbeats 6400000 in
theorem o_ledger_read {w : World} {n c : Nat} {a : Option Addr} {L : List Int} {b : Bool} {t oa ob had : Int} (n1 : ¬ oa < 0) (n2 : ¬ 255 < oa) (HX : Hid (Rd w (.slice a n c) L))
    (HA : ∀ W, Below w.heap.size w W → Hid (Calls Try.prog 44 #[.slice a n c, .int .i64 oa] W fun e w' => e = .returned (.int .i64 had) ∧ ∃ q, w' = W.drewN q)) :
    Calls Try.prog 30 #[.agg #[.int .i64 5, .slice a n c, .bool b, .int .i64 t], .agg #[.int .i64 7, .int .i64 oa, .int .i64 ob]] w (StepP w (.slice a n c) ((⟨5, L, b, t⟩ : St), had)) := by
  go_enter Try.func30, Try.ntmps30
  go_wp2_with fail
  go_region_with (first | (go_at_call 44; refine (HA _ (below3 w _ _ _).drew).out.mono ?_; rintro e w1 ⟨rfl, q, rfl⟩))
  all_goals
    go_wp2_with fail
    refine bodyPost_ret (v := .tuple #[.agg #[.int .i64 5, .slice a n c, .bool b, .int .i64 t], .int .i64 had]) ?_ rfl ?_
    · simp [results, Try.results30, go_sem]
    · exact stepp_same HX.out (below_res (below3d w _ _ _ _) _ (by omega) _ _ _ _)

set_option maxRecDepth 100000 in
set_option maxHeartbeats 6400000 in
theorem o_ledger_add {w : World} {n c : Nat} {a : Option Addr} {L L2 : List Int} {b ok : Bool} {t oa ob had y sm z : Int} (n1 : ¬ oa < 0) (n2 : ¬ 255 < oa) (n3 : ¬ ob < 0) (HX : Hid (Rd w (.slice a n c) L))
    (HA : ∀ W, Below w.heap.size w W → Hid (Calls Try.prog 44 #[.slice a n c, .int .i64 oa] W fun e w' => e = .returned (.int .i64 had) ∧ ∃ q, w' = W.drewN q))
    (HC1 : ∀ W, Hid (Calls Try.prog 37 #[.int .i64 ob] W fun e w' => e = .returned (.int .i64 y) ∧ w' = W))
    (HC2 : ∀ W, Hid (Calls Try.prog 37 #[.int .i64 sm] W fun e w' => e = .returned (.int .i64 z) ∧ w' = W))
    (b1 : -1099511627776 ≤ y) (b2 : y ≤ 1099511627776) (b4 : had ≤ 1099511627776) (hs : (0 ≤ had ∧ had + y = sm) ∨ (¬ 0 ≤ had ∧ y = sm))
    (HP : ∀ W, Below w.heap.size w W → Hid (Calls Try.prog 46 #[.slice a n c, .int .i64 oa, .int .i64 z] W (PutP W L2 ok))) :
    Calls Try.prog 30 #[.agg #[.int .i64 5, .slice a n c, .bool b, .int .i64 t], .agg #[.int .i64 8, .int .i64 oa, .int .i64 ob]] w (StepP w (.slice a n c) (if ok = true then ((⟨5, L2, b, t⟩ : St), z) else ((⟨5, L, b, t⟩ : St), -2))) := by
  rcases hs with ⟨h0, hs⟩ | ⟨h0, rfl⟩ <;> cases ok
  all_goals
    first | rw [if_pos rfl] | rw [if_neg (by simp)]
    go_enter Try.func30, Try.ntmps30
    go_wp2_with fail
    go_quiet (first | (go_at_call 44; with_reducible exact Calls.quiet_of (HA _ (below3d w _ _ _ _)).out) | (go_at_call 37; first | with_reducible exact Calls.quiet_of_same (HC1 _).out | with_reducible exact Calls.quiet_of_same (HC2 _).out))
    go_wp2_with fail
    refine (HP _ (below3d w _ _ _ _)).out.mono ?_
    rintro e w4 ⟨v4, rfl, hrd, how, hb4'⟩
    obtain ⟨a4, c4, rfl, _⟩ := id hrd
    have HB' := Lib.hid hb4'
    have HO4 := Lib.hid how
    clear hb4' hrd how
    obtain ⟨b0, b1, b2, hz4, hb4⟩ := box_facts (k := 5) (t := t) (co := 8) (oa := oa) (ob := ob) (vl := .slice a n c) (b := b) (below_undrew (HB'.out.mono (by simp : w.heap.size + 1 + 1 + 1 ≤ _)))
    have hk0 : w4.cell? ⟨w.heap.size, 0, none⟩ = some (.int .i64 5) := by rw [b0.cell]; rfl
    have hk1 : w4.cell? ⟨w.heap.size, 1, none⟩ = some (.slice a n c) := by rw [b0.cell]; rfl
    have hk2 : w4.cell? ⟨w.heap.size, 2, none⟩ = some (.bool b) := by rw [b0.cell]; rfl
    have hk3 : w4.cell? ⟨w.heap.size, 3, none⟩ = some (.int .i64 t) := by rw [b0.cell]; rfl
    have ho0 : w4.cell? ⟨w.heap.size + 1, 0, none⟩ = some (.int .i64 8) := by rw [b1.cell]; rfl
    have ho1 : w4.cell? ⟨w.heap.size + 1, 1, none⟩ = some (.int .i64 oa) := by rw [b1.cell]; rfl
    have ho2 : w4.cell? ⟨w.heap.size + 1, 2, none⟩ = some (.int .i64 ob) := by rw [b1.cell]; rfl
    have hr0 : w4.cell? ⟨w.heap.size + 1 + 1, 0, none⟩ = some (.int .i64 0) := by rw [b2.cell]; rfl
    have hr1 : w4.cell? ⟨w.heap.size + 1 + 1, 1, none⟩ = some (.slice none 0 0) := by rw [b2.cell]; rfl
    have hr2 : w4.cell? ⟨w.heap.size + 1 + 1, 2, none⟩ = some (.bool false) := by rw [b2.cell]; rfl
    have hr3 : w4.cell? ⟨w.heap.size + 1 + 1, 3, none⟩ = some (.int .i64 0) := by rw [b2.cell]; rfl
    have hfz0 := b0.frozen 1
    have hfr0 := b2.frozen 0
    have hfr1 := b2.frozen 1
    have hfr2 := b2.frozen 2
    have hfr3 := b2.frozen 3
    have B0 := Lib.hid b0
    have B2 := Lib.hid b2
    have HB4 := Lib.hid hb4
    clear b0 b1 b2 hb4 HB'
    go_wp2_with fail
  · refine bodyPost_ret (v := .tuple #[.agg #[.int .i64 5, .slice a n c, .bool b, .int .i64 t], .int .i64 (-2)]) ?_ rfl ?_
    · simp [results, Try.results30, go_sem, hr0, hr1, hr2, hr3]
    · exact stepp_same HX.out (below_res HB4.out _ (by omega) _ _ _ _)
  · refine bodyPost_ret (v := .tuple #[.agg #[.int .i64 5, .slice a4 L2.length c4, .bool b, .int .i64 t], .int .i64 z]) ?_ rfl ?_
    · simp [results, Try.results30, go_sem, hr0, hr1, hr2, hr3]
    · exact stepp_own B0.out B2.out (sets_keeps _ _ _ _ _ _ _ _) HB4.out (Nat.le_refl _) (by omega) (HO4.out trivial).1 ((HO4.out trivial).2.mono (below3d w _ _ _ _).size) _ _ _ _
  · refine bodyPost_ret (v := .tuple #[.agg #[.int .i64 5, .slice a n c, .bool b, .int .i64 t], .int .i64 (-2)]) ?_ rfl ?_
    · simp [results, Try.results30, go_sem, hr0, hr1, hr2, hr3]
    · exact stepp_same HX.out (below_res HB4.out _ (by omega) _ _ _ _)
  · refine bodyPost_ret (v := .tuple #[.agg #[.int .i64 5, .slice a4 L2.length c4, .bool b, .int .i64 t], .int .i64 z]) ?_ rfl ?_
    · simp [results, Try.results30, go_sem, hr0, hr1, hr2, hr3]
    · exact stepp_own B0.out B2.out (sets_keeps _ _ _ _ _ _ _ _) HB4.out (Nat.le_refl _) (by omega) (HO4.out trivial).1 ((HO4.out trivial).2.mono (below3d w _ _ _ _).size) _ _ _ _

theorem rd_inj {w : World} {v : Value} {xs ys : List Int} (h : Rd w v xs) (h' : Rd w v ys) : xs = ys := by
  obtain ⟨a, c, rfl, h1, h2, h3⟩ := h
  obtain ⟨a', c', e, h1', h2', h3'⟩ := h'
  simp only [Value.slice.injEq] at e
  obtain ⟨rfl, hl, rfl⟩ := e
  refine List.ext_getElem hl fun i hi hi' => ?_
  obtain ⟨b, o, rfl, _, hc⟩ := h3 (by omega)
  obtain ⟨b', o', e, _, hc'⟩ := h3' (by omega)
  simp only [Option.some.injEq, Addr.mk.injEq] at e
  obtain ⟨rfl, rfl, _⟩ := e
  have := (hc i hi).symm.trans (hc' i hi')
  simpa [List.getD_eq_getElem?_getD, List.getElem?_eq_getElem hi, List.getElem?_eq_getElem hi'] using this

/-- A callee's state, behind the stores into the caller's result. -/
theorem stepp_pass {w W w1 : World} {vl v : Value} {L0 : List Int} {r : St × Int} {C : Nat} {cs : Array Value} (hx : Rd w vl L0) (hW : Below w.heap.size w W) (hC : Blk W C cs 24) (hC0 : w.heap.size ≤ C)
    (h1 : Rd w1 v r.1.L) (h2 : Below W.heap.size W w1) (h3 : v = vl ∨ (Own w1 3 1 v r.1.L.length (ints r.1.L) ∧ Fresh W.heap.size v)) (v1 v2 v3 v4 : Value) :
    StepP w vl r (.returned (.tuple #[.agg #[.int .i64 r.1.kind, v, .bool r.1.isSealed, .int .i64 r.1.to], .int .i64 r.2])) ((((w1.setCell ⟨C, 0, none⟩ v1).setCell ⟨C, 1, none⟩ v2).setCell ⟨C, 2, none⟩ v3).setCell ⟨C, 3, none⟩ v4) := by
  have hk : Keeps (fun k => k = C) w1 ((((w1.setCell ⟨C, 0, none⟩ v1).setCell ⟨C, 1, none⟩ v2).setCell ⟨C, 2, none⟩ v3).setCell ⟨C, 3, none⟩ v4) :=
    ((((Keeps.refl (fun k => k = C) w1).set C 0 (.inl rfl) _).set C 1 (.inl rfl) _).set C 2 (.inl rfl) _).set C 3 (.inl rfl) _
  have hb : Below w.heap.size w w1 := hW.trans (h2.mono hW.size)
  have hB := hb.trans (hk.below (B := w.heap.size) (by rintro k rfl; exact hC0) hb.size)
  have hC1 := hC.below h2 hC.lt
  rcases h3 with rfl | h3
  · have e := rd_inj h1 (hx.below hb (Nat.le_refl _))
    exact ⟨_, rfl, e ▸ hx.below hB (Nat.le_refl _), hB, .inl rfl⟩
  · have h := own_keeps h3.1 hk fun q hq e => own_blk_ne h3.1 hC1 (by decide) (e ▸ hq)
    exact ⟨_, rfl, own_rd h, hB, .inr ⟨h, h3.2.mono hW.size⟩⟩

set_option maxRecDepth 100000 in
set_option maxHeartbeats 6400000 in
theorem o_ledger_move {w : World} {n c : Nat} {a : Option Addr} {L : List Int} {b : Bool} {t oa ob : Int} {r : St × Int} (HX : Hid (Rd w (.slice a n c) L))
    (HM : ∀ W, Below w.heap.size w W → Hid (Calls Try.prog 47 #[.agg #[.int .i64 5, .slice a n c, .bool b, .int .i64 t], .agg #[.int .i64 9, .int .i64 oa, .int .i64 ob]] W (StepP W (.slice a n c) r))) :
    Calls Try.prog 30 #[.agg #[.int .i64 5, .slice a n c, .bool b, .int .i64 t], .agg #[.int .i64 9, .int .i64 oa, .int .i64 ob]] w (StepP w (.slice a n c) r) := by
  go_enter Try.func30, Try.ntmps30
  go_wp2_with fail
  refine (HM _ (below3 w _ _ _)).out.mono ?_
  rintro e w4 ⟨v4, rfl, hrd, hb4', hor⟩
  obtain ⟨a4, c4, rfl, _⟩ := id hrd
  obtain ⟨b0, b1, b2, hz4, hb4⟩ := box_facts (k := 5) (t := t) (co := 9) (oa := oa) (ob := ob) (vl := .slice a n c) (b := b) (hb4'.mono (by simp : w.heap.size + 1 + 1 + 1 ≤ _))
  have hr0 : w4.cell? ⟨w.heap.size + 1 + 1, 0, none⟩ = some (.int .i64 0) := by rw [b2.cell]; rfl
  have hr1 : w4.cell? ⟨w.heap.size + 1 + 1, 1, none⟩ = some (.slice none 0 0) := by rw [b2.cell]; rfl
  have hr2 : w4.cell? ⟨w.heap.size + 1 + 1, 2, none⟩ = some (.bool false) := by rw [b2.cell]; rfl
  have hr3 : w4.cell? ⟨w.heap.size + 1 + 1, 3, none⟩ = some (.int .i64 0) := by rw [b2.cell]; rfl
  have hfr0 := b2.frozen 0
  have hfr1 := b2.frozen 1
  have hfr2 := b2.frozen 2
  have hfr3 := b2.frozen 3
  have HB4 := Lib.hid hb4'
  have HR := Lib.hid hrd
  have HO := Lib.hid hor
  clear b0 b1 b2 hb4 hb4' hrd hor
  obtain ⟨⟨k', L', b', t'⟩, m'⟩ := r
  go_wp2_with fail
  refine bodyPost_ret (v := .tuple #[.agg #[.int .i64 k', .slice a4 L'.length c4, .bool b', .int .i64 t'], .int .i64 m']) ?_ rfl ?_
  · simp [results, Try.results30, go_sem, hr0, hr1, hr2, hr3]
  · have := Blk.new ((w.alloc (.cells #[.int .i64 5, .slice a n c, .bool b, .int .i64 t] 24)).alloc (.cells #[.int .i64 9, .int .i64 oa, .int .i64 ob] 26)) #[.int .i64 0, .slice none 0 0, .bool false, .int .i64 0] 24
    simp only [World.size_alloc] at this
    exact stepp_pass (r := (⟨k', L', b', t'⟩, m')) HX.out (below3 w _ _ _) this (by omega) HR.out HB4.out HO.out _ _ _ _

theorem o_ledger {w : World} {vl : Value} (s : St) (o : Op3) (hx : Rd w vl s.L) (hk : s.kind = 5) (hm : mayB s = true) :
    Calls Try.prog 30 #[.agg #[.int .i64 s.kind, vl, .bool s.isSealed, .int .i64 s.to], .agg #[.int .i64 o.code, .int .i64 o.a, .int .i64 o.b]] w (StepP w vl (ledgerS s o)) := by
  by_cases c9 : o.code = 9
  · have hM := fun W (hB : Below w.heap.size w W) => Lib.hid (o_move s o (hx.below hB (Nat.le_refl _)) hk c9 hm)
    have hr : ledgerS s o = moveS s o := by unfold ledgerS; rw [if_pos c9]
    rw [hr]
    generalize moveS s o = r at *
    obtain ⟨k, L, b, t⟩ := s
    obtain ⟨co, oa, ob⟩ := o
    simp only at hx hk c9 hM ⊢
    subst hk
    subst c9
    obtain ⟨a, c, rfl, _⟩ := id hx
    exact o_ledger_move (Lib.hid hx) hM
  obtain ⟨hev, h128⟩ := may_pairs (.inr hk) hm
  have hbd := may_ledger hk hm
  obtain ⟨k, L, b, t⟩ := s
  obtain ⟨co, oa, ob⟩ := o
  simp only at hx hk hev h128 hm hbd c9 ⊢
  subst hk
  have HX := Lib.hid hx
  obtain ⟨a, c, rfl, _⟩ := id hx
  have HH := fun W (hB : Below w.heap.size w W) => Lib.hid (o_has (w := W) (HX.out.below hB (Nat.le_refl _)) (by omega) hev oa)
  have g9 : (co == 9) = false := by simpa using c9
  by_cases hc : co ≠ 7 ∧ co ≠ 8
  · have hr : ledgerS ⟨5, L, b, t⟩ ⟨co, oa, ob⟩ = ((⟨5, L, b, t⟩ : St), 0) := by unfold ledgerS; simp only; rw [if_neg c9, if_pos hc]
    rw [hr]
    exact o_ledger_no g9 (.inl ⟨by simpa using hc.1, by simpa using hc.1, by simpa using hc.2, rfl⟩) HX
  by_cases ha : oa < 0 ∨ 255 < oa
  · have hr : ledgerS ⟨5, L, b, t⟩ ⟨co, oa, ob⟩ = ((⟨5, L, b, t⟩ : St), -1) := by unfold ledgerS; simp only; rw [if_neg c9, if_neg hc, if_pos ha]
    rw [hr]
    refine o_ledger_no g9 ?_ HX
    have : co = 7 ∨ co = 8 := by omega
    rcases this with rfl | rfl
    · exact .inr (.inl ⟨rfl, by omega, rfl⟩)
    · exact .inr (.inr ⟨rfl, by omega, rfl⟩)
  by_cases c7 : co = 7
  · have hr : ledgerS ⟨5, L, b, t⟩ ⟨co, oa, ob⟩ = ((⟨5, L, b, t⟩ : St), hasI L oa) := by unfold ledgerS; simp only; rw [if_neg c9, if_neg hc, if_neg ha, if_pos c7]
    rw [hr]
    subst c7
    exact o_ledger_read (by omega) (by omega) HX HH
  have c8 : co = 8 := by omega
  subst c8
  by_cases hb : ob < 0
  · have hr : ledgerS ⟨5, L, b, t⟩ ⟨8, oa, ob⟩ = ((⟨5, L, b, t⟩ : St), -1) := by unfold ledgerS; simp only; rw [if_neg c9, if_neg hc, if_neg ha, if_neg c7, if_pos hb]
    rw [hr]
    exact o_ledger_no g9 (.inr (.inr ⟨rfl, by omega, rfl⟩)) HX
  · have hr : ledgerS ⟨5, L, b, t⟩ ⟨8, oa, ob⟩ = if putB L oa = true then ((⟨5, putL L oa (cutI (max (hasI L oa) 0 + cutI ob)), b, t⟩ : St), cutI (max (hasI L oa) 0 + cutI ob)) else ((⟨5, L, b, t⟩ : St), -2) := by unfold ledgerS; simp only; rw [if_neg c9, if_neg hc, if_neg ha, if_neg c7, if_neg hb]
    rw [hr]
    have hP := fun W (hB : Below w.heap.size w W) => Lib.hid (o_put (w := W) (HX.out.below hB (Nat.le_refl _)) (by omega) hev oa (cutI (max (hasI L oa) 0 + cutI ob)))
    exact o_ledger_add (by omega) (by omega) hb HX HH (fun W => Lib.hid (o_cut ob W)) (fun W => Lib.hid (o_cut (max (hasI L oa) 0 + cutI ob) W)) (cutI_range ob).1 (cutI_range ob).2 (hbd oa).2 (by omega) hP
end Go.Proofs.Ytaoagaokocnehaa
/- Package objs: the walk of Step. -/
namespace Go.Proofs.Ytaoagaokocnehaa
set_option linter.unusedVariables false
set_option maxRecDepth 100000
set_option linter.unusedSimpArgs false
open Go.RowKit

theorem step_open {w w4 : World} {k t co oa ob : Int} {vl : Value} {b : Bool} (h : Below (w.heap.size + 1 + 1 + 1) (((w.alloc (.cells #[.int .i64 k, vl, .bool b, .int .i64 t] 24)).alloc (.cells #[.int .i64 co, .int .i64 oa, .int .i64 ob] 26)).alloc (.cells #[.int .i64 0, .slice none 0 0, .bool false, .int .i64 0] 24)) w4) :
    (w4.cell? ⟨w.heap.size, 0, none⟩ = some (.int .i64 k) ∧ w4.cell? ⟨w.heap.size, 1, none⟩ = some vl ∧ w4.cell? ⟨w.heap.size, 2, none⟩ = some (.bool b) ∧ w4.cell? ⟨w.heap.size, 3, none⟩ = some (.int .i64 t)) ∧
    (w4.cell? ⟨w.heap.size + 1, 0, none⟩ = some (.int .i64 co) ∧ w4.cell? ⟨w.heap.size + 1, 1, none⟩ = some (.int .i64 oa) ∧ w4.cell? ⟨w.heap.size + 1, 2, none⟩ = some (.int .i64 ob)) ∧
    (w4.cell? ⟨w.heap.size + 1 + 1, 0, none⟩ = some (.int .i64 0) ∧ w4.cell? ⟨w.heap.size + 1 + 1, 1, none⟩ = some (.slice none 0 0) ∧ w4.cell? ⟨w.heap.size + 1 + 1, 2, none⟩ = some (.bool false) ∧ w4.cell? ⟨w.heap.size + 1 + 1, 3, none⟩ = some (.int .i64 0)) ∧
    (w4.frozen? ⟨w.heap.size, 2, none⟩ = false ∧ w4.frozen? ⟨w.heap.size, 3, none⟩ = false) ∧
    (w4.frozen? ⟨w.heap.size + 1 + 1, 0, none⟩ = false ∧ w4.frozen? ⟨w.heap.size + 1 + 1, 1, none⟩ = false ∧ w4.frozen? ⟨w.heap.size + 1 + 1, 2, none⟩ = false ∧ w4.frozen? ⟨w.heap.size + 1 + 1, 3, none⟩ = false) := by
  obtain ⟨b0, b1, b2, _, _⟩ := box_facts h
  refine ⟨⟨?_, ?_, ?_, ?_⟩, ⟨?_, ?_, ?_⟩, ⟨?_, ?_, ?_, ?_⟩, ⟨b0.frozen 2, b0.frozen 3⟩, b2.frozen 0, b2.frozen 1, b2.frozen 2, b2.frozen 3⟩
  all_goals first | rw [b0.cell]; rfl | rw [b1.cell]; rfl | rw [b2.cell]; rfl

/-- The stores of a seal: into the boxed state, into the result. -/
theorem seal_keeps (w4 : World) (B C : Nat) (v1 v2 v3 v4 v5 v6 : Value) : Keeps (fun k => k = B ∨ k = C) w4 ((((((w4.setCell ⟨B, 2, none⟩ v1).setCell ⟨B, 3, none⟩ v6).setCell ⟨C, 0, none⟩ v2).setCell ⟨C, 1, none⟩ v3).setCell ⟨C, 2, none⟩ v4).setCell ⟨C, 3, none⟩ v5) :=
  (((((((Keeps.refl _ w4).set B 2 (.inl (.inl rfl)) _).set B 3 (.inl (.inl rfl)) _).set C 0 (.inl (.inr rfl)) _).set C 1 (.inl (.inr rfl)) _).set C 2 (.inl (.inr rfl)) _).set C 3 (.inl (.inr rfl)) _)
theorem seal_keeps' (w4 : World) (B C : Nat) (v1 v2 v3 v4 v5 : Value) : Keeps (fun k => k = B ∨ k = C) w4 (((((w4.setCell ⟨B, 2, none⟩ v1).setCell ⟨C, 0, none⟩ v2).setCell ⟨C, 1, none⟩ v3).setCell ⟨C, 2, none⟩ v4).setCell ⟨C, 3, none⟩ v5) :=
  ((((((Keeps.refl _ w4).set B 2 (.inl (.inl rfl)) _).set C 0 (.inl (.inr rfl)) _).set C 1 (.inl (.inr rfl)) _).set C 2 (.inl (.inr rfl)) _).set C 3 (.inl (.inr rfl)) _)

set_option maxRecDepth 100000 in
set_option maxHeartbeats 6400000 in
theorem o_step_no {w : World} {n c : Nat} {a : Option Addr} {L : List Int} {b m : Bool} {k t co oa ob r : Int} (HX : Hid (Rd w (.slice a n c) L))
    (HM : ∀ W, Below w.heap.size w W → Hid (Calls Try.prog 20 #[.agg #[.int .i64 k, .slice a n c, .bool b, .int .i64 t]] W (Tells W m)))
    (h : (m = false ∧ r = 0) ∨ (m = true ∧ b = true ∧ r = -1125899906842624)) :
    Calls Try.prog 13 #[.agg #[.int .i64 k, .slice a n c, .bool b, .int .i64 t], .agg #[.int .i64 co, .int .i64 oa, .int .i64 ob]] w (StepP w (.slice a n c) ((⟨k, L, b, t⟩ : St), r)) := by
  rcases h with ⟨rfl, rfl⟩ | ⟨rfl, rfl, rfl⟩
  all_goals
    go_enter Try.func13, Try.ntmps13
    go_wp2_with fail
    refine (HM _ (below3 w _ _ _)).out.mono ?_
    rintro e w4 ⟨rfl, hb4⟩
    have hB' := hb4.mono (by simp : w.heap.size + 1 + 1 + 1 ≤ _)
    obtain ⟨⟨hk0, hk1, hk2, hk3⟩, ⟨ho0, ho1, ho2⟩, ⟨hr0, hr1, hr2, hr3⟩, ⟨hz2, hz3⟩, hf0, hf1, hf2, hf3⟩ := step_open hB'
    have HB := Lib.hid hB'
    clear hb4 hB'
    go_wp2_with fail
  · refine bodyPost_ret (v := .tuple #[.agg #[.int .i64 k, .slice a n c, .bool b, .int .i64 t], .int .i64 0]) ?_ rfl ?_
    · simp [results, Try.results13, go_sem, hr0, hr1, hr2, hr3]
    · exact stepp_same HX.out (below_res ((below3 w _ _ _).trans (HB.out.mono (by omega))) _ (by omega) _ _ _ _)
  · refine bodyPost_ret (v := .tuple #[.agg #[.int .i64 k, .slice a n c, .bool true, .int .i64 t], .int .i64 (-1125899906842624)]) ?_ rfl ?_
    · simp [results, Try.results13, go_sem, hr0, hr1, hr2, hr3]
    · exact stepp_same HX.out (below_res ((below3 w _ _ _).trans (HB.out.mono (by omega))) _ (by omega) _ _ _ _)

set_option maxRecDepth 100000 in
set_option maxHeartbeats 6400000 in
theorem o_step_seal {w : World} {n c : Nat} {a : Option Addr} {L : List Int} {k t t' oa ob : Int} (HX : Hid (Rd w (.slice a n c) L))
    (HM : ∀ W, Below w.heap.size w W → Hid (Calls Try.prog 20 #[.agg #[.int .i64 k, .slice a n c, .bool false, .int .i64 t]] W (Tells W true)))
    (h : (¬ 0 ≤ oa ∧ t' = t) ∨ (0 ≤ oa ∧ ¬ oa < 3 ∧ t' = t) ∨ (0 ≤ oa ∧ oa < 3 ∧ t' = oa)) :
    Calls Try.prog 13 #[.agg #[.int .i64 k, .slice a n c, .bool false, .int .i64 t], .agg #[.int .i64 10, .int .i64 oa, .int .i64 ob]] w (StepP w (.slice a n c) ((⟨k, L, true, t'⟩ : St), 0)) := by
  rcases h with ⟨h1, rfl⟩ | ⟨h1, h2, rfl⟩ | ⟨h1, h2, rfl⟩
  all_goals
    go_enter Try.func13, Try.ntmps13
    go_wp2_with fail
    refine (HM _ (below3 w _ _ _)).out.mono ?_
    rintro e w4 ⟨rfl, hb4⟩
    have hB' := hb4.mono (by simp : w.heap.size + 1 + 1 + 1 ≤ _)
    obtain ⟨⟨hk0, hk1, hk2, hk3⟩, ⟨ho0, ho1, ho2⟩, ⟨hr0, hr1, hr2, hr3⟩, ⟨hz2, hz3⟩, hf0, hf1, hf2, hf3⟩ := step_open hB'
    have HB := Lib.hid hB'
    clear hb4 hB'
    go_wp2_with fail
    refine bodyPost_ret (v := .tuple #[.agg #[.int .i64 k, .slice a n c, .bool true, .int .i64 t'], .int .i64 0]) ?_ rfl ?_
    · simp [results, Try.results13, go_sem, hr0, hr1, hr2, hr3]
    · have hB := (below3 w _ _ _).trans (HB.out.mono (by omega))
      have g1 := fun (v1 v2 v3 v4 v5 : Value) => hB.trans ((seal_keeps' w4 w.heap.size (w.heap.size + 1 + 1) v1 v2 v3 v4 v5).below (B := w.heap.size) (by rintro k (rfl | rfl) <;> omega) hB.size)
      have g2 := fun (v1 v2 v3 v4 v5 v6 : Value) => hB.trans ((seal_keeps w4 w.heap.size (w.heap.size + 1 + 1) v1 v2 v3 v4 v5 v6).below (B := w.heap.size) (by rintro k (rfl | rfl) <;> omega) hB.size)
      refine stepp_same HX.out ?_
      first
        | with_reducible exact g1 _ _ _ _ _
        | with_reducible exact g2 _ _ _ _ _ _

set_option maxRecDepth 100000 in
set_option maxHeartbeats 6400000 in
theorem o_step_do {w : World} {n c : Nat} {a : Option Addr} {L : List Int} {k t co oa ob : Int} {r : St × Int} (HX : Hid (Rd w (.slice a n c) L))
    (HM : ∀ W, Below w.heap.size w W → Hid (Calls Try.prog 20 #[.agg #[.int .i64 k, .slice a n c, .bool false, .int .i64 t]] W (Tells W true)))
    (g : (co == 10) = false) (f : FuncId)
    (hf : ((k = 0 ∨ k = 1) ∧ f = 27) ∨ ((k = 2 ∨ k = 3) ∧ f = 28) ∨ (k = 4 ∧ f = 29) ∨ (k = 5 ∧ f = 30))
    (HS : ∀ W, Below w.heap.size w W → Hid (Calls Try.prog f #[.agg #[.int .i64 k, .slice a n c, .bool false, .int .i64 t], .agg #[.int .i64 co, .int .i64 oa, .int .i64 ob]] W (StepP W (.slice a n c) r))) :
    Calls Try.prog 13 #[.agg #[.int .i64 k, .slice a n c, .bool false, .int .i64 t], .agg #[.int .i64 co, .int .i64 oa, .int .i64 ob]] w (StepP w (.slice a n c) r) := by
  rcases hf with ⟨rfl | rfl, rfl⟩ | ⟨rfl | rfl, rfl⟩ | ⟨rfl, rfl⟩ | ⟨rfl, rfl⟩
  all_goals
    go_enter Try.func13, Try.ntmps13
    go_wp2_with fail
    refine (HM _ (below3 w _ _ _)).out.mono ?_
    rintro e w4 ⟨rfl, hb4⟩
    have hB' := hb4.mono (by simp : w.heap.size + 1 + 1 + 1 ≤ _)
    obtain ⟨⟨hk0, hk1, hk2, hk3⟩, ⟨ho0, ho1, ho2⟩, ⟨hr0, hr1, hr2, hr3⟩, ⟨hz2, hz3⟩, hf0, hf1, hf2, hf3⟩ := step_open hB'
    have HB := Lib.hid hB'
    clear hb4 hB'
    go_wp2_with fail
    refine (HS _ ((below3 w _ _ _).trans (HB.out.mono (by omega)))).out.mono ?_
    rintro e w5 ⟨v5, rfl, hrd, hb5, hor⟩
    obtain ⟨a4, c4, rfl, _⟩ := id hrd
    clear hk0 hk1 hk2 hk3 ho0 ho1 ho2 hr0 hr1 hr2 hr3 hz2 hz3 hf0 hf1 hf2 hf3
    have hB5 := HB.out.trans (hb5.mono (by have := HB.out.size; simpa using this))
    obtain ⟨⟨hk0, hk1, hk2, hk3⟩, ⟨ho0, ho1, ho2⟩, ⟨hr0, hr1, hr2, hr3⟩, ⟨hz2, hz3⟩, hf0, hf1, hf2, hf3⟩ := step_open hB5
    have HB5 := Lib.hid hb5
    have HR := Lib.hid hrd
    have HO := Lib.hid hor
    clear hB5 hb5 hrd hor hk0 hk1 hk2 hk3 ho0 ho1 ho2 hz2 hz3
    obtain ⟨⟨k', L', b', t'⟩, m'⟩ := r
    go_wp2_with fail
    refine bodyPost_ret (v := .tuple #[.agg #[.int .i64 k', .slice a4 L'.length c4, .bool b', .int .i64 t'], .int .i64 m']) ?_ rfl ?_
    · simp [results, Try.results13, go_sem, hr0, hr1, hr2, hr3]
    · exact stepp_pass (r := (⟨k', L', b', t'⟩, m')) HX.out ((below3 w _ _ _).trans (HB.out.mono (by omega))) (box_facts HB.out).2.2.1 (by omega) HR.out HB5.out HO.out _ _ _ _

theorem may_kind {s : St} (hm : mayB s = true) : (s.kind = 0 ∨ s.kind = 1) ∨ (s.kind = 2 ∨ s.kind = 3) ∨ s.kind = 4 ∨ s.kind = 5 := by
  unfold mayB at hm
  split at hm
  · simp at hm
  · by_cases h : (s.kind = 0 ∨ s.kind = 1) ∨ (s.kind = 2 ∨ s.kind = 3) ∨ s.kind = 4 ∨ s.kind = 5
    · exact h
    · simp only [not_or] at h
      simp [h] at hm

theorem o_step {w : World} {vl : Value} (s : St) (o : Op3) (hx : Rd w vl s.L) (hl : s.L.length ≤ 17592186044416) :
    Calls Try.prog 13 #[.agg #[.int .i64 s.kind, vl, .bool s.isSealed, .int .i64 s.to], .agg #[.int .i64 o.code, .int .i64 o.a, .int .i64 o.b]] w (StepP w vl (stepS s o)) := by
  have HM := fun W (hB : Below w.heap.size w W) => Lib.hid (o_may (w := W) s (hx.below hB (Nat.le_refl _)) hl)
  have HX := Lib.hid hx
  obtain ⟨a, c, rfl, _⟩ := id hx
  by_cases hm : mayB s = false
  · have hr : stepS s o = (s, 0) := by unfold stepS; rw [if_pos hm]
    rw [hr]
    rw [hm] at HM
    exact o_step_no HX HM (.inl ⟨rfl, rfl⟩)
  have hm' : mayB s = true := by simpa using hm
  rw [hm'] at HM
  by_cases hs : s.isSealed = true
  · have hr : stepS s o = (s, -1125899906842624) := by unfold stepS; rw [if_neg hm, if_pos hs]
    rw [hr]
    exact o_step_no HX HM (.inr ⟨rfl, hs, rfl⟩)
  have hs' : s.isSealed = false := by simpa using hs
  by_cases hc : o.code = 10
  · have hr : stepS s o = ({ s with isSealed := true, to := if 0 ≤ o.a ∧ o.a < 3 then o.a else s.to }, 0) := by unfold stepS; rw [if_neg hm, if_neg hs, if_pos hc]
    rw [hr]
    rw [hs'] at HM ⊢
    rw [hc]
    refine o_step_seal HX HM ?_
    by_cases h1 : 0 ≤ o.a
    · by_cases h2 : o.a < 3
      · exact .inr (.inr ⟨h1, h2, by simp [h1, h2]⟩)
      · exact .inr (.inl ⟨h1, h2, by simp [h2]⟩)
    · exact .inl ⟨h1, by simp [h1]⟩
  have g : (o.code == 10) = false := by simpa using hc
  have key : ∀ (f : FuncId) (r : St × Int), (((s.kind = 0 ∨ s.kind = 1) ∧ f = 27) ∨ ((s.kind = 2 ∨ s.kind = 3) ∧ f = 28) ∨ (s.kind = 4 ∧ f = 29) ∨ (s.kind = 5 ∧ f = 30)) →
      (∀ W, Below w.heap.size w W → Hid (Calls Try.prog f #[.agg #[.int .i64 s.kind, .slice a s.L.length c, .bool s.isSealed, .int .i64 s.to], .agg #[.int .i64 o.code, .int .i64 o.a, .int .i64 o.b]] W (StepP W (.slice a s.L.length c) r))) → stepS s o = r →
      Calls Try.prog 13 #[.agg #[.int .i64 s.kind, .slice a s.L.length c, .bool s.isSealed, .int .i64 s.to], .agg #[.int .i64 o.code, .int .i64 o.a, .int .i64 o.b]] w (StepP w (.slice a s.L.length c) (stepS s o)) := by
    intro f r hf hS hr
    rw [hr]
    rw [hs'] at HM hS ⊢
    exact o_step_do HX HM g f hf hS
  rcases may_kind hm' with hk | hk | hk | hk
  · exact key _ (numberS s o) (.inl ⟨hk, rfl⟩) (fun W hB => Lib.hid (o_number s o (hx.below hB (Nat.le_refl _)) hk hm')) (by unfold stepS; rw [if_neg hm, if_neg hs, if_neg hc, if_pos hk])
  · exact key _ (lineS s o) (.inr (.inl ⟨hk, rfl⟩)) (fun W hB => Lib.hid (o_line s o (hx.below hB (Nat.le_refl _)) hk hm')) (by unfold stepS; rw [if_neg hm, if_neg hs, if_neg hc, if_neg (by omega), if_pos hk])
  · exact key _ (storeS s o) (.inr (.inr (.inl ⟨hk, rfl⟩))) (fun W hB => Lib.hid (o_store s o (hx.below hB (Nat.le_refl _)) hk hm')) (by unfold stepS; rw [if_neg hm, if_neg hs, if_neg hc, if_neg (by omega), if_neg (by omega), if_pos hk])
  · exact key _ (ledgerS s o) (.inr (.inr (.inr ⟨hk, rfl⟩))) (fun W hB => Lib.hid (o_ledger s o (hx.below hB (Nat.le_refl _)) hk hm')) (by unfold stepS; rw [if_neg hm, if_neg hs, if_neg hc, if_neg (by omega), if_neg (by omega), if_neg (by omega)])
end Go.Proofs.Ytaoagaokocnehaa
/- Package objs: the walks of Fits, Same, Start. -/
namespace Go.Proofs.Ytaoagaokocnehaa
set_option linter.unusedVariables false
set_option maxRecDepth 100000
set_option linter.unusedSimpArgs false
open Go.RowKit

set_option maxRecDepth 100000 in
set_option maxHeartbeats 3200000 in
theorem o_fits {w : World} (o : Op3) : Calls Try.prog 25 #[.agg #[.int .i64 o.code, .int .i64 o.a, .int .i64 o.b]] w (Tells w (fitsB o)) := by
  obtain ⟨co, oa, ob⟩ := o
  have C1 := fun W => Lib.hid (o_cut oa W)
  have C2 := fun W => Lib.hid (o_cut ob W)
  have e : fitsB ⟨co, oa, ob⟩ = (decide (0 ≤ co) && decide (co ≤ 10) && (oa == cutI oa) && (ob == cutI ob)) := rfl
  rw [e]
  clear e
  generalize cutI oa = y at *
  generalize cutI ob = z at *
  have fin : ∀ q, Below w.heap.size w ((w.alloc (.cells #[.int .i64 co, .int .i64 oa, .int .i64 ob] 26)).drewN q) := fun q => ((Below.refl _ w).alloc (Nat.le_refl _) _).trans ⟨rfl, rfl, rfl, Nat.le_refl _, fun _ _ => rfl⟩
  have HF := Lib.hid fin
  clear fin
  have cs : (0 ≤ co ∧ co ≤ 10 ∧ (oa == y) = true ∧ (ob == z) = true) ∨ (0 ≤ co ∧ co ≤ 10 ∧ (oa == y) = true ∧ (ob == z) = false) ∨ (0 ≤ co ∧ co ≤ 10 ∧ (oa == y) = false) ∨ (0 ≤ co ∧ ¬ co ≤ 10) ∨ ¬ 0 ≤ co := by
    by_cases h1 : 0 ≤ co
    · by_cases h2 : co ≤ 10
      · cases h3 : (oa == y)
        · exact .inr (.inr (.inl ⟨h1, h2, rfl⟩))
        · cases h4 : (ob == z)
          · exact .inr (.inl ⟨h1, h2, rfl, rfl⟩)
          · exact .inl ⟨h1, h2, rfl, rfl⟩
      · exact .inr (.inr (.inr (.inl ⟨h1, h2⟩)))
    · exact .inr (.inr (.inr (.inr h1)))
  have key : ∀ r : Bool, r = (decide (0 ≤ co) && decide (co ≤ 10) && (oa == y) && (ob == z)) → Calls Try.prog 25 #[.agg #[.int .i64 co, .int .i64 oa, .int .i64 ob]] w (Tells w r) := by
    intro r hr
    have HR := Lib.hid hr
    rcases cs with ⟨h1, h2, h3, h4⟩ | ⟨h1, h2, h3, h4⟩ | ⟨h1, h2, h3⟩ | ⟨h1, h2⟩ | h1
    · obtain rfl : r = true := by rw [hr, h3, h4]; simp [h1, h2]
      clear hr HR
      go_enter Try.func25, Try.ntmps25
      go_wp2_with fail
      go_quiet (first | (go_at_call 37; first | with_reducible exact Calls.quiet_of_same (C1 _).out | with_reducible exact Calls.quiet_of_same (C2 _).out))
      go_wp2_with fail
      go_ret
      exact ⟨rfl, HF.out _⟩
    all_goals
      obtain rfl : r = false := by rw [hr]; first | rw [h3, h4]; simp | rw [h3]; simp | simp [h1, h2] | simp [h1] | (simp; intros; omega)
      clear hr HR
      try have g1 := decide_eq_false h1
      try have g2 := decide_eq_false h2
      go_enter Try.func25, Try.ntmps25
      go_wp2_with fail
      go_quiet (first | (go_at_call 37; first | with_reducible exact Calls.quiet_of_same (C1 _).out | with_reducible exact Calls.quiet_of_same (C2 _).out))
      go_wp2_with fail
      go_ret
      exact ⟨rfl, HF.out _⟩
  exact key _ rfl

/-- Are two states the same? -/
def sameB (s t : St) : Bool := (s.kind == t.kind) && (s.isSealed == t.isSealed) && (s.to == t.to) && (s.L == t.L)

theorem own_nil (w : World) : Own w 3 1 (.slice none 0 0) 0 [] := ⟨rfl, .inl ⟨rfl, rfl⟩⟩

/-- A state is told. -/
def StateP (w : World) (s : St) (e : Ending) (w' : World) : Prop :=
  ∃ vl, e = .returned (.agg #[.int .i64 s.kind, vl, .bool s.isSealed, .int .i64 s.to]) ∧ Rd w' vl s.L ∧ Below w.heap.size w w' ∧ Own w' 3 1 vl s.L.length (ints s.L)

set_option maxRecDepth 100000 in
set_option maxHeartbeats 3200000 in
theorem o_start {w : World} (kind : Int) : Calls Try.prog 16 #[.int .i64 kind] w (StateP w (startS kind)) := by
  have one : ∀ (k : Int), StateP w ⟨k, [0], false, 0⟩ (.returned (.agg #[.int .i64 k, .slice (some ⟨w.heap.size + 1, 0, none⟩) 1 1, .bool false, .int .i64 0])) ((w.alloc (.cells #[.int .i64 k, .slice (some ⟨w.heap.size + 1, 0, none⟩) 1 1, .bool false, .int .i64 0] 24)).alloc (.cells #[.int .i64 0] 3)) := by
    intro k
    have h := own_lit (w.alloc (.cells #[.int .i64 k, .slice (some ⟨w.heap.size + 1, 0, none⟩) 1 1, .bool false, .int .i64 0] 24)) 3 (ints [0]) (by simp [ints, maxLen])
    rw [World.size_alloc] at h
    exact ⟨_, rfl, own_rd (n := 1) h, ((Below.refl _ w).alloc (Nat.le_refl _) _).alloc (by simp) _, h⟩
  have none : ∀ (k : Int), StateP w ⟨k, [], false, 0⟩ (.returned (.agg #[.int .i64 k, .slice .none 0 0, .bool false, .int .i64 0])) (w.alloc (.cells #[.int .i64 k, .slice .none 0 0, .bool false, .int .i64 0] 24)) := fun k =>
    ⟨_, rfl, rd_nil _, (Below.refl _ w).alloc (Nat.le_refl _) _, own_nil _⟩
  have H1 := Lib.hid one
  have H2 := Lib.hid none
  clear one none
  have cs : kind = 0 ∨ kind = 1 ∨ kind = 2 ∨ kind = 3 ∨ kind = 4 ∨ kind = 5 ∨ ((kind == 0) = false ∧ (kind == 1) = false ∧ (kind == 2) = false ∧ (kind == 3) = false ∧ (kind == 4) = false ∧ (kind == 5) = false) := by
    simp only [beq_eq_false_iff_ne]; omega
  rcases cs with rfl | rfl | rfl | rfl | rfl | rfl | ⟨h0, h1, h2, h3, h4, h5⟩
  · have hr : startS 0 = ⟨0, [0], false, 0⟩ := rfl
    rw [hr]
    go_enter Try.func16, Try.ntmps16
    go_wp2_with fail
    refine bodyPost_ret (v := .agg #[.int .i64 0, .slice (some ⟨w.heap.size + 1, 0, .none⟩) 1 1, .bool false, .int .i64 0]) ?_ rfl (H1.out 0)
    simp [results, Try.results16, go_sem]
  · have hr : startS 1 = ⟨1, [0], false, 0⟩ := rfl
    rw [hr]
    go_enter Try.func16, Try.ntmps16
    go_wp2_with fail
    refine bodyPost_ret (v := .agg #[.int .i64 1, .slice (some ⟨w.heap.size + 1, 0, .none⟩) 1 1, .bool false, .int .i64 0]) ?_ rfl (H1.out 1)
    simp [results, Try.results16, go_sem]
  · have hr : startS 2 = ⟨2, [], false, 0⟩ := rfl
    rw [hr]
    go_enter Try.func16, Try.ntmps16
    go_wp2_with fail
    refine bodyPost_ret (v := .agg #[.int .i64 2, .slice .none 0 0, .bool false, .int .i64 0]) ?_ rfl (H2.out 2)
    simp [results, Try.results16, go_sem]
  · have hr : startS 3 = ⟨3, [], false, 0⟩ := rfl
    rw [hr]
    go_enter Try.func16, Try.ntmps16
    go_wp2_with fail
    refine bodyPost_ret (v := .agg #[.int .i64 3, .slice .none 0 0, .bool false, .int .i64 0]) ?_ rfl (H2.out 3)
    simp [results, Try.results16, go_sem]
  · have hr : startS 4 = ⟨4, [], false, 0⟩ := rfl
    rw [hr]
    go_enter Try.func16, Try.ntmps16
    go_wp2_with fail
    refine bodyPost_ret (v := .agg #[.int .i64 4, .slice .none 0 0, .bool false, .int .i64 0]) ?_ rfl (H2.out 4)
    simp [results, Try.results16, go_sem]
  · have hr : startS 5 = ⟨5, [], false, 0⟩ := rfl
    rw [hr]
    go_enter Try.func16, Try.ntmps16
    go_wp2_with fail
    refine bodyPost_ret (v := .agg #[.int .i64 5, .slice .none 0 0, .bool false, .int .i64 0]) ?_ rfl (H2.out 5)
    simp [results, Try.results16, go_sem]
  · have hr : startS kind = ⟨0, [], false, 0⟩ := by
      simp only [beq_eq_false_iff_ne] at h0 h1 h2 h3 h4 h5
      unfold startS; rw [if_neg (by omega), if_neg (by omega)]
    rw [hr]
    go_enter Try.func16, Try.ntmps16
    go_wp2_with fail
    refine bodyPost_ret (v := .agg #[.int .i64 0, .slice .none 0 0, .bool false, .int .i64 0]) ?_ rfl (H2.out 0)
    simp [results, Try.results16, go_sem]

set_option maxRecDepth 100000 in
set_option maxHeartbeats 3200000 in
theorem o_same {w : World} {vl ul : Value} (s t : St) (hx : Rd w vl s.L) (hy : Rd w ul t.L) :
    Calls Try.prog 21 #[.agg #[.int .i64 s.kind, vl, .bool s.isSealed, .int .i64 s.to], .agg #[.int .i64 t.kind, ul, .bool t.isSealed, .int .i64 t.to]] w (Tells w (sameB s t)) := by
  obtain ⟨k, L, b, d⟩ := s
  obtain ⟨k', L', b', d'⟩ := t
  simp only at hx hy ⊢
  have hB : Below w.heap.size w ((w.alloc (.cells #[.int .i64 k, vl, .bool b, .int .i64 d] 24)).alloc (.cells #[.int .i64 k', ul, .bool b', .int .i64 d'] 24)) := ((Below.refl _ w).alloc (Nat.le_refl _) _).alloc (by simp) _
  have HE := Lib.hid (sl_equal (w := (w.alloc (.cells #[.int .i64 k, vl, .bool b, .int .i64 d] 24)).alloc (.cells #[.int .i64 k', ul, .bool b', .int .i64 d'] 24)) (hx.below hB (Nat.le_refl _)) (hy.below hB (Nat.le_refl _)))
  have hW := Lib.hid hB
  obtain ⟨a, c, rfl, _⟩ := id hx
  obtain ⟨a', c', rfl, _⟩ := id hy
  have e : sameB ⟨k, L, b, d⟩ ⟨k', L', b', d'⟩ = ((k == k') && (b == b') && (d == d') && decide (L = L')) := by
    unfold sameB; simp only
    congr 1
    by_cases h : L = L' <;> simp [h]
  rw [e]
  clear e hx hy hB
  generalize decide (L = L') = q at *
  cases h1 : (k == k')
  · go_enter Try.func21, Try.ntmps21
    go_wp2_with fail
    go_ret
    exact ⟨rfl, hW.out⟩
  cases h3 : (d == d')
  · cases b <;> cases b'
    all_goals
      go_enter Try.func21, Try.ntmps21
      go_wp2_with fail
      go_ret
      exact ⟨rfl, hW.out⟩
  cases b <;> cases b'
  all_goals
    go_enter Try.func21, Try.ntmps21
    go_wp2_with fail
  · refine HE.out.mono ?_
    rintro e w1 ⟨rfl, hb⟩
    have HB := Lib.hid hb
    clear hb
    go_wp2_with fail
    go_ret
    exact ⟨rfl, hW.out.trans (HB.out.mono (by simp; omega))⟩
  · go_ret
    exact ⟨rfl, hW.out⟩
  · go_ret
    exact ⟨rfl, hW.out⟩
  · refine HE.out.mono ?_
    rintro e w1 ⟨rfl, hb⟩
    have HB := Lib.hid hb
    clear hb
    go_wp2_with fail
    go_ret
    exact ⟨rfl, hW.out.trans (HB.out.mono (by simp; omega))⟩
end Go.Proofs.Ytaoagaokocnehaa
/- Layer 4: queues and stacks in plain Lean. -/
namespace Go.Proofs.Ytaoagaokocnehaa
set_option linter.unusedVariables false
set_option maxRecDepth 100000
set_option linter.unusedSimpArgs false

def Wi (l : List Int) : Prop := ∀ x ∈ l, -1099511627776 ≤ x ∧ x ≤ 1099511627776
theorem cut_in {x : Int} (h : -1099511627776 ≤ x ∧ x ≤ 1099511627776) : cutI x = x := by unfold cutI; rw [if_neg (by omega), if_neg (by omega)]
theorem within_of {l : List Int} (h : Wi l) : withinB l = true := by
  unfold withinB
  simp only [Bool.not_eq_true', List.any_eq_false, bne_iff_ne, ne_eq, Decidable.not_not]
  intro x hx
  exact (cut_in (h x hx)).symm
theorem may_of {k : Int} {l : List Int} (hk : k = 2 ∨ k = 3) (hl : l.length ≤ 64) (h : Wi l) : mayB (⟨k, l, false, 0⟩ : St) = true := by
  unfold mayB
  simp only
  rw [if_neg (by simp), if_neg (by omega), if_pos hk, within_of h]
  simp [hl]
theorem step_push {k : Int} {l : List Int} {x : Int} (hk : k = 2 ∨ k = 3) (hl : l.length < 64) (h : Wi l) (hx : -1099511627776 ≤ x ∧ x ≤ 1099511627776) :
    stepS ⟨k, l, false, 0⟩ ⟨3, x, 0⟩ = ((⟨k, l ++ [x], false, 0⟩ : St), (l.length : Int) + 1) := by
  have hm := may_of hk (by omega) h
  unfold stepS
  rw [if_neg (by simp [hm]), if_neg (by simp), if_neg (by simp), if_neg (by simp only; omega), if_pos (by simpa using hk)]
  unfold lineS
  rw [if_neg (by simp), if_pos ⟨rfl, hl⟩, cut_in hx]
theorem step_popq {l : List Int} (hl : l.length ≤ 64) (h0 : 0 < l.length) (h : Wi l) : stepS ⟨2, l, false, 0⟩ ⟨4, 0, 0⟩ = ((⟨2, l.drop 1, false, 0⟩ : St), l.getD 0 0) := by
  have hm := may_of (.inl rfl) hl h
  unfold stepS
  rw [if_neg (by simp [hm]), if_neg (by simp), if_neg (by simp), if_neg (by simp), if_pos (by simp)]
  unfold lineS
  rw [if_neg (by simp), if_neg (by simp), if_neg (by simp; intro e; simp [e] at h0), if_neg (by simp), if_pos rfl]
theorem step_pops {l : List Int} (hl : l.length ≤ 64) (h0 : 0 < l.length) (h : Wi l) : stepS ⟨3, l, false, 0⟩ ⟨4, 0, 0⟩ = ((⟨3, l.take (l.length - 1), false, 0⟩ : St), l.getD (l.length - 1) 0) := by
  have hm := may_of (.inr rfl) hl h
  unfold stepS
  rw [if_neg (by simp [hm]), if_neg (by simp), if_neg (by simp), if_neg (by simp), if_pos (by simp)]
  unfold lineS
  rw [if_neg (by simp), if_neg (by simp), if_neg (by simp; intro e; simp [e] at h0), if_neg (by simp), if_neg (by simp)]
theorem take_succ_getD : ∀ (l : List Int) (k : Nat), k < l.length → l.take (k + 1) = l.take k ++ [l.getD k 0]
  | [], k, h => by simp at h
  | x :: l, 0, _ => by simp
  | x :: l, k + 1, h => by
    have := take_succ_getD l k (by simpa using h)
    simp only [List.take_succ_cons, List.cons_append, this]
    simp
theorem getD_drop (l : List Int) (k i : Nat) : (l.drop k).getD i 0 = l.getD (k + i) 0 := by
  simp [List.getD_eq_getElem?_getD, List.getElem?_drop]
theorem getD_take (l : List Int) (k i : Nat) (h : i < k) : (l.take k).getD i 0 = l.getD i 0 := by
  simp [List.getD_eq_getElem?_getD, List.getElem?_take, h]
theorem Wi.sub {l m : List Int} (h : Wi l) (hs : ∀ x ∈ m, x ∈ l) : Wi m := fun x hx => h x (hs x hx)
theorem Wi.drop {l : List Int} (h : Wi l) (k : Nat) : Wi (l.drop k) := h.sub fun _ hx => List.mem_of_mem_drop hx
theorem Wi.take {l : List Int} (h : Wi l) (k : Nat) : Wi (l.take k) := h.sub fun _ hx => List.mem_of_mem_take hx
theorem Wi.snoc {l : List Int} {x : Int} (h : Wi l) (hx : -1099511627776 ≤ x ∧ x ≤ 1099511627776) : Wi (l ++ [x]) := by
  intro y hy
  rcases List.mem_append.1 hy with hy | hy
  · exact h y hy
  · rw [List.mem_singleton.1 hy]; exact hx
end Go.Proofs.Ytaoagaokocnehaa
/- Layer 4 in plain Lean: what may be may be behind any operation; seals; moves. -/
namespace Go.Proofs.Ytaoagaokocnehaa
set_option linter.unusedVariables false
set_option maxRecDepth 100000
set_option linter.unusedSimpArgs false

theorem pairsGo_cons {least last k v : Int} {r : List Int} : pairsGo least last (k :: v :: r) = true ↔ (last < k ∧ k ≤ 255 ∧ least ≤ v ∧ v ≤ 1099511627776) ∧ pairsGo least k r = true := by
  rw [pairsGo]
  by_cases h : k ≤ last ∨ 255 < k ∨ v < least ∨ 1099511627776 < v
  · rw [if_pos h]
    constructor
    · intro e; simp at e
    · rintro ⟨e, _⟩; omega
  · rw [if_neg h]
    constructor
    · intro e; exact ⟨by omega, e⟩
    · rintro ⟨_, e⟩; exact e
theorem pairsGo_weak {least a b : Int} : ∀ {l : List Int}, pairsGo least a l = true → b ≤ a → pairsGo least b l = true
  | k :: v :: r, h, hb => by rw [pairsGo_cons] at h ⊢; exact ⟨by omega, h.2⟩
  | [k], _, _ => by simp [pairsGo]
  | [], _, _ => by simp [pairsGo]
theorem pairs_putR {least key n : Int} : ∀ {l : List Int} {last : Int}, l.length % 2 = 0 → pairsGo least last l = true → last < key → key ≤ 255 → least ≤ n → n ≤ 1099511627776 → pairsGo least last (putR l key n) = true
  | k :: v :: r, last, he, h, h1, h2, h3, h4 => by
    rw [pairsGo_cons] at h
    rw [putR]
    by_cases c : k < key
    · rw [if_pos c, pairsGo_cons]
      exact ⟨h.1, pairs_putR (by simp at he; omega) h.2 c h2 h3 h4⟩
    · rw [if_neg c]
      by_cases d : k = key
      · rw [if_pos d, pairsGo_cons]; exact ⟨by omega, h.2⟩
      · rw [if_neg d, pairsGo_cons, pairsGo_cons]; exact ⟨by omega, by omega, h.2⟩
  | [k], _, he, _, _, _, _, _ => by simp at he
  | [], last, _, _, h1, h2, h3, h4 => by
    rw [putR, pairsGo_cons]
    · exact ⟨by omega, by simp [pairsGo]⟩
    · simp
theorem pairs_delR {least key : Int} : ∀ {l : List Int} {last : Int}, pairsGo least last l = true → pairsGo least last (delR l key) = true
  | k :: v :: r, last, h => by
    rw [pairsGo_cons] at h
    rw [delR]
    by_cases c : k < key
    · rw [if_pos c, pairsGo_cons]; exact ⟨h.1, pairs_delR h.2⟩
    · rw [if_neg c]; exact pairsGo_weak h.2 (by omega)
  | [k], _, h => by simpa [delR] using h
  | [], _, h => by simpa [delR] using h
theorem delR_length (key : Int) : ∀ l : List Int, (delR l key).length % 2 = l.length % 2 ∧ (delR l key).length ≤ l.length
  | k :: v :: r => by
    have ih := delR_length key r
    rw [delR]
    split <;> simp only [List.length_cons] <;> omega
  | [k] => by simp [delR]
  | [] => by simp [delR]
theorem pairs_hasR {least key : Int} : ∀ {l : List Int} {last : Int}, pairsGo least last l = true → foundB l key = true → l.length % 2 = 0 → least ≤ hasI l key ∧ hasI l key ≤ 1099511627776
  | k :: v :: r, last, h, hf, he => by
    rw [pairsGo_cons] at h
    rw [foundB_cons] at hf
    rw [hasI_cons]
    by_cases c : k < key
    · rw [if_pos c] at hf ⊢; exact pairs_hasR h.2 hf (by simp at he; omega)
    · rw [if_neg c] at hf ⊢
      rw [if_pos (by simpa using hf)]; omega
  | [k], _, _, _, he => by simp at he
  | [], _, _, hf, _ => by simp [foundB_nil] at hf
theorem pairsB_iff {l : List Int} {least : Int} : pairsB l least = true ↔ pairsGo least (-1) l = true ∧ l.length % 2 = 0 ∧ l.length ≤ 128 := by
  simp [pairsB]
theorem pairsB_put {l : List Int} {least key n : Int} (h : pairsB l least = true) (hb : putB l key = true) (h1 : 0 ≤ key) (h2 : key ≤ 255) (h3 : least ≤ n) (h4 : n ≤ 1099511627776) : pairsB (putL l key n) least = true := by
  rw [pairsB_iff] at h ⊢
  rw [putL_eq h.2.1 hb]
  refine ⟨pairs_putR h.2.1 h.1 (by omega) h2 h3 h4, putR_even h.2.1, ?_⟩
  rw [putR_length key n l h.2.1]
  split
  · exact h.2.2
  · rename_i hf
    unfold putB at hb
    simp [hf] at hb
    have := h.2.1
    omega
theorem pairsB_del {l : List Int} {least key : Int} (h : pairsB l least = true) : pairsB (delL l key) least = true := by
  rw [pairsB_iff] at h ⊢
  rw [delL_eq h.2.1]
  have := delR_length key l
  exact ⟨pairs_delR h.1, by omega, by omega⟩
theorem pairsB_has {l : List Int} {least key : Int} (h : pairsB l least = true) : hasI l key = -1 ∨ (least ≤ hasI l key ∧ hasI l key ≤ 1099511627776) := by
  rw [pairsB_iff] at h
  cases hf : foundB l key
  · exact .inl (has_unfound hf)
  · exact .inr (pairs_hasR h.1 hf h.2.1)

theorem withinB_iff {l : List Int} : withinB l = true ↔ Wi l := by
  refine ⟨fun h x hx => ?_, within_of⟩
  unfold withinB at h
  simp only [Bool.not_eq_true', List.any_eq_false, bne_iff_ne, ne_eq, Decidable.not_not] at h
  have := cutI_range x
  rw [← h x hx] at this
  exact this
def ToOk (s : St) : Prop := 0 ≤ s.to ∧ s.to < 3 ∧ (s.isSealed = false → s.to = 0)
theorem mayB_iff {s : St} : mayB s = true ↔ ToOk s ∧ (((s.kind = 0 ∨ s.kind = 1) ∧ s.L.length = 1 ∧ Wi s.L) ∨ ((s.kind = 2 ∨ s.kind = 3) ∧ s.L.length ≤ 64 ∧ Wi s.L) ∨ (s.kind = 4 ∧ pairsB s.L (-1099511627776) = true) ∨ (s.kind = 5 ∧ pairsB s.L 0 = true)) := by
  unfold mayB ToOk
  by_cases h : s.to < 0 ∨ 3 ≤ s.to ∨ (s.isSealed = false ∧ s.to ≠ 0)
  · rw [if_pos h]
    constructor
    · intro e; simp at e
    · rintro ⟨⟨h1, h2, h3⟩, _⟩
      rcases h with h | h | ⟨h, h'⟩
      · omega
      · omega
      · exact absurd (h3 h) h'
  · rw [if_neg h]
    have ht : 0 ≤ s.to ∧ s.to < 3 ∧ (s.isSealed = false → s.to = 0) := by
      refine ⟨by omega, by omega, fun e => ?_⟩
      by_cases h0 : s.to = 0
      · exact h0
      · exact absurd (.inr (.inr ⟨e, h0⟩)) h
    rw [← withinB_iff]
    by_cases k0 : s.kind = 0 ∨ s.kind = 1
    · rw [if_pos k0]; simp [ht]
      constructor
      · intro e; exact ⟨ht.2.2, .inl ⟨k0, e⟩⟩
      · rintro ⟨_, ⟨_, e⟩ | ⟨e, _⟩ | ⟨e, _⟩ | ⟨e, _⟩⟩
        · exact e
        all_goals omega
    · rw [if_neg k0]
      by_cases k2 : s.kind = 2 ∨ s.kind = 3
      · rw [if_pos k2]; simp [ht]
        constructor
        · intro e; exact ⟨ht.2.2, .inr (.inl ⟨k2, e⟩)⟩
        · rintro ⟨_, ⟨e, _⟩ | ⟨_, e⟩ | ⟨e, _⟩ | ⟨e, _⟩⟩
          · omega
          · exact e
          all_goals omega
      · rw [if_neg k2]
        by_cases k4 : s.kind = 4
        · rw [if_pos k4]; simp [ht, k4]; exact fun _ => ht.2.2
        · rw [if_neg k4]
          by_cases k5 : s.kind = 5
          · rw [if_pos k5]; simp [ht, k5]; exact fun _ => ht.2.2
          · rw [if_neg k5]; simp; intros; omega

def setL (s : St) (l : List Int) : St := { s with L := l }
theorem number_may {s : St} {o : Op3} (h : s.L.length = 1 ∧ Wi s.L) : ∃ l n, numberS s o = (setL s l, n) ∧ l.length = 1 ∧ Wi l := by
  have hc : ∀ x : Int, ([cutI x] : List Int).length = 1 ∧ Wi [cutI x] := fun x => ⟨rfl, by intro y hy; rw [List.mem_singleton.1 hy]; exact cutI_range x⟩
  unfold numberS
  split
  · exact ⟨_, _, rfl, h⟩
  · split
    · exact ⟨_, _, rfl, hc _⟩
    · split
      · exact ⟨_, _, rfl, hc _⟩
      · exact ⟨_, _, rfl, h⟩
theorem line_may {s : St} {o : Op3} (h : s.L.length ≤ 64 ∧ Wi s.L) : ∃ l n, lineS s o = (setL s l, n) ∧ l.length ≤ 64 ∧ Wi l := by
  unfold lineS
  split
  · exact ⟨_, _, rfl, h⟩
  · split
    · rename_i h1
      exact ⟨_, _, rfl, by simp; omega, h.2.snoc (cutI_range _)⟩
    · split
      · exact ⟨_, _, rfl, h⟩
      · split
        · exact ⟨_, _, rfl, h⟩
        · split
          · exact ⟨_, _, rfl, by simp; omega, h.2.drop _⟩
          · exact ⟨_, _, rfl, by simp; omega, h.2.take _⟩
theorem store_may {s : St} {o : Op3} (h : pairsB s.L (-1099511627776) = true) : ∃ l n, storeS s o = (setL s l, n) ∧ pairsB l (-1099511627776) = true := by
  unfold storeS
  split
  · exact ⟨_, _, rfl, h⟩
  · split
    · exact ⟨_, _, rfl, h⟩
    · rename_i h1 h2
      have hc := cutI_range o.b
      split
      · exact ⟨_, _, rfl, pairsB_del h⟩
      · split
        · split
          · rename_i hb
            exact ⟨_, _, rfl, pairsB_put h hb (by omega) (by omega) hc.1 hc.2⟩
          · exact ⟨_, _, rfl, h⟩
        · exact ⟨_, _, rfl, h⟩
theorem found_of_has {l : List Int} {key : Int} (h : hasI l key ≠ -1) : foundB l key = true := by
  cases hf : foundB l key
  · exact absurd (has_unfound hf) h
  · rfl
/-- A move's second put: the account it comes from is there still. -/
theorem move_from {l : List Int} {a b n : Int} (he : l.length % 2 = 0) (hb : putB l b = true) (hf : foundB l a = true) : putB (putL l b n) a = true := by
  unfold putB
  rw [putL_eq he hb, found_putR _ _ _ _ he, hf]
  simp
theorem move_has {l : List Int} {a b n : Int} (he : l.length % 2 = 0) (hb : putB l b = true) (hne : a ≠ b) : hasI (putL l b n) a = hasI l a := by
  rw [putL_eq he hb, has_putR _ _ _ _ he, if_neg hne]
theorem move_may {s : St} {o : Op3} (h : pairsB s.L 0 = true) : ∃ l n, moveS s o = (setL s l, n) ∧ pairsB l 0 = true := by
  unfold moveS
  split
  · exact ⟨_, _, rfl, h⟩
  · split
    · exact ⟨_, _, rfl, h⟩
    · split
      · exact ⟨_, _, rfl, h⟩
      · split
        · exact ⟨_, _, rfl, h⟩
        · rename_i h1 h2 h3 h4
          have hpb : putB s.L (o.a % 256) = true := by
            cases hb : putB s.L (o.a % 256)
            · exact absurd (.inl hb) h4
            · rfl
          have hev := (pairsB_iff.1 h).2.1
          have hf : foundB s.L (o.a / 256) = true := found_of_has (by omega)
          have hr := pairsB_has (key := o.a / 256) h
          exact ⟨_, _, rfl, pairsB_put (pairsB_put h hpb (by omega) (by omega) (by omega) (by omega)) (move_from hev hpb hf) (by omega) (by omega) (by omega) (by omega)⟩
theorem ledger_may {s : St} {o : Op3} (h : pairsB s.L 0 = true) : ∃ l n, ledgerS s o = (setL s l, n) ∧ pairsB l 0 = true := by
  unfold ledgerS
  split
  · exact move_may h
  · split
    · exact ⟨_, _, rfl, h⟩
    · split
      · exact ⟨_, _, rfl, h⟩
      · split
        · exact ⟨_, _, rfl, h⟩
        · split
          · exact ⟨_, _, rfl, h⟩
          · split
            · rename_i h1 h2 h3 h4 h5 hb
              have hc := cutI_range (max (hasI s.L o.a) 0 + cutI o.b)
              have hz : 0 ≤ cutI (max (hasI s.L o.a) 0 + cutI o.b) := by
                have : 0 ≤ cutI o.b := by unfold cutI; split <;> (try split) <;> omega
                generalize hx : max (hasI s.L o.a) 0 + cutI o.b = x
                have : 0 ≤ x := by omega
                unfold cutI; split <;> (try split) <;> omega
              exact ⟨_, _, rfl, pairsB_put h hb (by omega) (by omega) hz hc.2⟩
            · exact ⟨_, _, rfl, h⟩

/-- What may be may be behind any operation; what is sealed stays. -/
theorem step_stays {s : St} (o : Op3) (h : mayB s = true) : mayB (stepS s o).1 = true ∧ (stepS s o).1.kind = s.kind ∧ (s.isSealed = true → stepS s o = (s, -1125899906842624)) ∧ (stepS s o).1.isSealed = (s.isSealed || decide (o.code = 10)) := by
  have hm := mayB_iff.1 h
  unfold stepS
  rw [if_neg (by simp [h])]
  by_cases hs : s.isSealed = true
  · rw [if_pos hs]; simp [h, hs]
  · rw [if_neg hs]
    have hs' : s.isSealed = false := by simpa using hs
    by_cases hc : o.code = 10
    · rw [if_pos hc]
      refine ⟨mayB_iff.2 ⟨?_, hm.2⟩, rfl, fun e => absurd e hs, by simp [hc]⟩
      unfold ToOk at hm ⊢
      simp only
      refine ⟨?_, ?_, by simp⟩ <;> split <;> omega
    · rw [if_neg hc]
      have key : ∀ {r : St × Int}, (∃ l n, r = (setL s l, n) ∧ (ToOk s → mayB (setL s l) = true)) → mayB r.1 = true ∧ r.1.kind = s.kind ∧ (s.isSealed = true → r = (s, -1125899906842624)) ∧ r.1.isSealed = (s.isSealed || decide (o.code = 10)) := by
        rintro r ⟨l, n, rfl, hr⟩
        exact ⟨hr hm.1, rfl, fun e => absurd e hs, by simp [setL, hc]⟩
      rcases hm.2 with ⟨hk, hl⟩ | ⟨hk, hl⟩ | ⟨hk, hl⟩ | ⟨hk, hl⟩
      · rw [if_pos hk]
        obtain ⟨l, n, e, h1⟩ := number_may (o := o) hl
        exact key ⟨l, n, e, fun ht => mayB_iff.2 ⟨ht, .inl ⟨hk, h1⟩⟩⟩
      · rw [if_neg (by omega), if_pos hk]
        obtain ⟨l, n, e, h1⟩ := line_may (o := o) hl
        exact key ⟨l, n, e, fun ht => mayB_iff.2 ⟨ht, .inr (.inl ⟨hk, h1⟩)⟩⟩
      · rw [if_neg (by omega), if_neg (by omega), if_pos hk]
        obtain ⟨l, n, e, h1⟩ := store_may (o := o) hl
        exact key ⟨l, n, e, fun ht => mayB_iff.2 ⟨ht, .inr (.inr (.inl ⟨hk, h1⟩))⟩⟩
      · rw [if_neg (by omega), if_neg (by omega), if_neg (by omega)]
        obtain ⟨l, n, e, h1⟩ := ledger_may (o := o) hl
        exact key ⟨l, n, e, fun ht => mayB_iff.2 ⟨ht, .inr (.inr (.inr ⟨hk, h1⟩))⟩⟩

/-! ### The sum of a ledger -/
def sumP : List Int → Int
  | _ :: v :: r => v + sumP r
  | _ => 0
theorem sum_putR (key n : Int) : ∀ l : List Int, l.length % 2 = 0 → sumP (putR l key n) = sumP l + n - (if foundB l key then hasI l key else 0)
  | k :: v :: r, h => by
    have ih := sum_putR key n r (by simp at h; omega)
    rw [putR, foundB_cons, hasI_cons]
    by_cases c : k < key
    · simp only [if_pos c, sumP, ih]; omega
    · simp only [if_neg c]
      by_cases d : k = key
      · simp only [if_pos d, sumP, beq_iff_eq]; omega
      · simp only [if_neg d, sumP, beq_iff_eq]; simp; omega
  | [k], h => by simp at h
  | [], _ => by simp [putR, sumP, foundB_nil]
theorem sum_take : ∀ (l : List Int) (j : Nat), 2 * j + 1 < l.length → sumP (l.take (2 * (j + 1))) = sumP (l.take (2 * j)) + l.getD (2 * j + 1) 0
  | k :: v :: r, 0, _ => by simp [sumP]
  | k :: v :: r, j + 1, h => by
    have ih := sum_take r j (by simp at h; omega)
    have e1 : 2 * (j + 1 + 1) = 2 * (j + 1) + 1 + 1 := by omega
    have e2 : 2 * (j + 1) = 2 * j + 1 + 1 := by omega
    rw [e1]
    simp only [List.take_succ_cons, sumP, ih]
    rw [e2]
    simp only [List.take_succ_cons, sumP, List.getD_cons_succ]
    omega
  | [k], j, h => by simp at h
  | [], j, h => by simp at h
theorem sum_range : ∀ (l : List Int) (last : Int) (j : Nat), pairsGo 0 last l = true → 0 ≤ sumP (l.take (2 * j)) ∧ sumP (l.take (2 * j)) ≤ 1099511627776 * j
  | _, _, 0, _ => by simp [sumP]
  | k :: v :: r, last, j + 1, h => by
    rw [pairsGo_cons] at h
    have ih := sum_range r k j h.2
    have e2 : 2 * (j + 1) = 2 * j + 1 + 1 := by omega
    rw [e2]
    simp only [List.take_succ_cons, sumP]
    omega
  | [k], last, j + 1, h => by
    have e2 : 2 * (j + 1) = 2 * j + 1 + 1 := by omega
    rw [e2]; simp [sumP]; omega
  | [], last, j + 1, h => by simp [sumP]; omega
theorem pairs_value : ∀ (l : List Int) (last least : Int) (j : Nat), pairsGo least last l = true → 2 * j + 1 < l.length → least ≤ l.getD (2 * j + 1) 0 ∧ l.getD (2 * j + 1) 0 ≤ 1099511627776
  | k :: v :: r, last, least, 0, h, _ => by rw [pairsGo_cons] at h; simp; omega
  | k :: v :: r, last, least, j + 1, h, hl => by
    rw [pairsGo_cons] at h
    have := pairs_value r k least j h.2 (by simp at hl; omega)
    have e2 : 2 * (j + 1) + 1 = 2 * j + 1 + 1 + 1 := by omega
    rw [e2]
    simpa using this
  | [k], last, least, j, h, hl => by simp at hl
  | [], last, least, j, h, hl => by simp at hl
/-- A move leaves the sum; one that does not respond 1 leaves all. -/
theorem step_moves {s : St} (o : Op3) (h : mayB s = true) (hk : s.kind = 5) (ho : o.code = 9) : sumP (stepS s o).1.L = sumP s.L ∧ ((stepS s o).2 = 1 ∨ (stepS s o).1 = s) := by
  have hm := mayB_iff.1 h
  have hp : pairsB s.L 0 = true := by
    rcases hm.2 with ⟨e, _⟩ | ⟨e, _⟩ | ⟨e, _⟩ | ⟨_, e⟩
    · omega
    · omega
    · omega
    · exact e
  unfold stepS
  rw [if_neg (by simp [h])]
  by_cases hs : s.isSealed = true
  · rw [if_pos hs]; simp
  · rw [if_neg hs, if_neg (by omega), if_neg (by omega), if_neg (by omega), if_neg (by omega)]
    unfold ledgerS
    rw [if_pos ho]
    unfold moveS
    split
    · simp
    · split
      · simp
      · split
        · simp
        · split
          · simp
          · rename_i h1 h2 h3 h4
            have hpb : putB s.L (o.a % 256) = true := by
              cases hb : putB s.L (o.a % 256)
              · exact absurd (.inl hb) h4
              · rfl
            have hev := (pairsB_iff.1 hp).2.1
            have hf : foundB s.L (o.a / 256) = true := found_of_has (by omega)
            have hfm := move_from (n := max (hasI s.L (o.a % 256)) 0 + o.b) hev hpb hf
            refine ⟨?_, .inl rfl⟩
            simp only
            have hev2 : (putL s.L (o.a % 256) (max (hasI s.L (o.a % 256)) 0 + o.b)).length % 2 = 0 := by rw [putL_eq hev hpb]; exact putR_even hev
            rw [putL_eq hev2 hfm, sum_putR _ _ _ hev2, move_has hev hpb (by omega)]
            have hff : foundB (putL s.L (o.a % 256) (max (hasI s.L (o.a % 256)) 0 + o.b)) (o.a / 256) = true := by
              rw [putL_eq hev hpb, found_putR _ _ _ _ hev, hf]; simp
            rw [hff, if_pos rfl, putL_eq hev hpb, sum_putR _ _ _ hev]
            cases hg : foundB s.L (o.a % 256)
            · rw [has_unfound hg]; simp; omega
            · have := pairs_hasR (pairsB_iff.1 hp).1 hg hev
              simp only [if_pos]; omega
end Go.Proofs.Ytaoagaokocnehaa
/- Layer 4: awake, Few, Ints. -/
namespace Go.Proofs.Ytaoagaokocnehaa
set_option linter.unusedVariables false
set_option maxRecDepth 100000
set_option linter.unusedSimpArgs false
open Go.RowKit

theorem few04 {w : World} {vl : Value} (s : St) (hx : Rd w vl s.L) :
    Calls Try.prog 12 #[.agg #[.int .i64 s.kind, vl, .bool s.isSealed, .int .i64 s.to]] w (Tells w (decide (s.L.length ≤ 300))) := by
  obtain ⟨a, c, rfl, _⟩ := hx
  obtain ⟨k, L, b, t⟩ := s
  have hB : Below w.heap.size w (w.alloc (.cells #[.int .i64 k, .slice a L.length c, .bool b, .int .i64 t] 24)) := (Below.refl _ w).alloc (Nat.le_refl _) _
  have e : decide (L.length ≤ 300) = decide ((L.length : Int) ≤ 300) := by
    by_cases h : L.length ≤ 300
    · rw [decide_eq_true h, decide_eq_true (by omega)]
    · rw [decide_eq_false h, decide_eq_false (by omega)]
  simp only
  rw [e]
  have H := Lib.hid hB
  clear e hB
  go_enter Try.func12, Try.ntmps12
  go_wp2_with fail
  go_ret
  exact ⟨rfl, H.out⟩

theorem rd_lit (w : World) (l : List Int) (n : Nat) (hn : n = l.length) (hm : l.length ≤ 4) : Rd (w.alloc (.cells (ints l).toArray 3)) (.slice (some ⟨w.heap.size, 0, none⟩) n n) l := by
  subst hn
  have h := own_lit w 3 (ints l) (by simp only [ints_length, maxLen]; omega)
  rw [ints_length] at h
  exact own_rd h

theorem rd_open1 {w : World} {v : Value} {x : Int} (h : Rd w v [x]) : ∃ b o c, v = .slice (some ⟨b, o, none⟩) 1 c ∧ 1 ≤ c ∧ b < w.heap.size ∧ w.cell? ⟨b, o, none⟩ = some (.int .i64 x) := by
  obtain ⟨a, c, rfl, h1, _, h3⟩ := h
  obtain ⟨b, o, rfl, hb, hc⟩ := h3 (by simp)
  exact ⟨b, o, c, rfl, h1, hb, hc 0 (by simp)⟩

set_option maxRecDepth 100000 in
set_option maxHeartbeats 3200000 in
theorem awake04 (w : World) : Calls Try.prog 11 #[] w (Tells w true) := by
  have S1 := fun W n hx => Lib.hid (o_step (w := W) (vl := .slice (some ⟨n, 0, none⟩) 1 1) ⟨0, [5], false, 0⟩ ⟨1, 3, 0⟩ hx (by decide))
  have r1 : stepS ⟨0, [5], false, 0⟩ ⟨1, 3, 0⟩ = (⟨0, [8], false, 0⟩, 5) := by decide +kernel
  rw [r1] at S1
  have S2 := fun W n hx => Lib.hid (o_step (w := W) (vl := .slice (some ⟨n, 0, none⟩) 2 2) ⟨2, [1, 2], false, 0⟩ ⟨4, 0, 0⟩ hx (by decide))
  have r2 : stepS ⟨2, [1, 2], false, 0⟩ ⟨4, 0, 0⟩ = (⟨2, [2], false, 0⟩, 1) := by decide +kernel
  rw [r2] at S2
  have S3 := fun W n hx => Lib.hid (o_step (w := W) (vl := .slice (some ⟨n, 0, none⟩) 1 1) ⟨0, [5], true, 0⟩ ⟨0, 0, 0⟩ hx (by decide))
  have r3 : stepS ⟨0, [5], true, 0⟩ ⟨0, 0, 0⟩ = (⟨0, [5], true, 0⟩, -1125899906842624) := by decide +kernel
  rw [r3] at S3
  have S4 := fun W v hx => Lib.hid (o_may (w := W) (vl := v) (startS 5) hx (by decide))
  have r4 : mayB (startS 5) = true := by decide +kernel
  have r5 : startS 5 = ⟨5, [], false, 0⟩ := rfl
  rw [r4] at S4
  have S5 := fun W => Lib.hid (o_start (w := W) 5)
  rw [r5] at S4 S5
  clear r1 r2 r3 r4 r5
  go_enter Try.func11, Try.ntmps11
  go_wp2_with fail
  refine (S1 _ _ (rd_lit w [5] 1 rfl (by decide))).out.mono ?_
  rintro e w1 ⟨v1, rfl, hrd1, hb1, _⟩
  obtain ⟨p1, o1, c1, rfl, hc1, hp1, hx1⟩ := rd_open1 hrd1
  clear S1
  have B1 := Lib.hid (((Below.refl w.heap.size w).alloc (Nat.le_refl _) (.cells #[.int .i64 5] 3)).trans (hb1.mono (by simp)))
  have X1 := Lib.hid hx1
  have l2 := Lib.hid (rd_lit (w1.alloc (.cells #[.int .i64 0, .slice (some ⟨p1, o1, none⟩) 1 c1, .bool false, .int .i64 0] 24)) [1, 2] 2 rfl (by decide))
  clear hrd1 hb1 hx1
  go_wp2_with fail
  rw [World.size_alloc] at l2
  refine (S2 _ _ l2.out).out.mono ?_
  rintro e w2 ⟨v2, rfl, hrd2, hb2, _⟩
  obtain ⟨p2, o2, c2, rfl, hc2, hp2, hx2⟩ := rd_open1 hrd2
  clear S2
  have hs2 := hb2.size
  simp only [World.size_alloc] at hs2
  have q1 := (((Blk.new w1 #[.int .i64 0, .slice (some ⟨p1, o1, none⟩) 1 c1, .bool false, .int .i64 0] 24).alloc (.cells #[.int .i64 1, .int .i64 2] 3))).below hb2 (by simp only [World.size_alloc]; omega)
  have t1 : w2.cell? ⟨p1, o1, none⟩ = some (.int .i64 8) := (hb2.cell (p := ⟨p1, o1, none⟩) (by simp only [World.size_alloc]; omega)).trans (by rw [World.cell?_alloc_lt _ _ _ (by simp only [World.size_alloc]; omega), World.cell?_alloc_lt _ _ _ (by omega)]; exact X1.out)
  have B2 := Lib.hid (B1.out.trans ((((Below.refl w1.heap.size w1).alloc (Nat.le_refl _) (.cells #[.int .i64 0, .slice (some ⟨p1, o1, none⟩) 1 c1, .bool false, .int .i64 0] 24)).alloc (by simp only [World.size_alloc]; omega) (.cells #[.int .i64 1, .int .i64 2] 3)).trans (hb2.mono (by simp only [World.size_alloc]; omega)) |>.mono B1.out.size))
  have X2 := Lib.hid hx2
  have Q1 := Lib.hid q1
  have T1 := Lib.hid t1
  have l3 := Lib.hid (rd_lit (w2.alloc (.cells #[.int .i64 2, .slice (some ⟨p2, o2, none⟩) 1 c2, .bool false, .int .i64 0] 24)) [5] 1 rfl (by decide))
  clear hrd2 hb2 hx2 q1 t1 l2
  go_wp2_with fail
  rw [World.size_alloc] at l3
  refine (S3 _ _ l3.out).out.mono ?_
  rintro e w3 ⟨v3, rfl, hrd3, hb3, _⟩
  have hs3 := hb3.size
  simp only [World.size_alloc] at hs3
  have q1 : Blk w3 w1.heap.size _ _ := (((Q1.out.alloc _).alloc _)).below hb3 (by simp only [World.size_alloc]; omega)
  have q2 := (((Blk.new w2 #[.int .i64 2, .slice (some ⟨p2, o2, none⟩) 1 c2, .bool false, .int .i64 0] 24).alloc (.cells #[.int .i64 5] 3))).below hb3 (by simp only [World.size_alloc]; omega)
  have t1 : w3.cell? ⟨p1, o1, none⟩ = some (.int .i64 8) := (hb3.cell (p := ⟨p1, o1, none⟩) (by simp only [World.size_alloc]; omega)).trans (by rw [World.cell?_alloc_lt _ _ _ (by simp only [World.size_alloc]; omega), World.cell?_alloc_lt _ _ _ (by simp only; omega)]; exact T1.out)
  have t2 : w3.cell? ⟨p2, o2, none⟩ = some (.int .i64 2) := (hb3.cell (p := ⟨p2, o2, none⟩) (by simp only [World.size_alloc]; omega)).trans (by rw [World.cell?_alloc_lt _ _ _ (by simp only [World.size_alloc]; omega), World.cell?_alloc_lt _ _ _ (by simp only; omega)]; exact X2.out)
  have u1 : w3.cell? ⟨w1.heap.size, 1, none⟩ = some (.slice (some ⟨p1, o1, none⟩) 1 c1) := q1.cell 1
  have u2 : w3.cell? ⟨w2.heap.size, 1, none⟩ = some (.slice (some ⟨p2, o2, none⟩) 1 c2) := q2.cell 1
  have B3 := Lib.hid (B2.out.trans ((((Below.refl w2.heap.size w2).alloc (Nat.le_refl _) (.cells #[.int .i64 2, .slice (some ⟨p2, o2, none⟩) 1 c2, .bool false, .int .i64 0] 24)).alloc (by simp only [World.size_alloc]; omega) (.cells #[.int .i64 5] 3)).trans (hb3.mono (by simp only [World.size_alloc]; omega)) |>.mono B2.out.size))
  have k1 : p1 < w3.heap.size := by omega
  have k2 : p2 < w3.heap.size := by omega
  have k3 : w1.heap.size < w3.heap.size := by omega
  have k4 : w2.heap.size < w3.heap.size := by omega
  obtain ⟨a3, c3, rfl, _⟩ := hrd3
  clear hb3 q1 q2 l3 hp1 hp2 hs2 hs3
  go_wp2_with fail
  refine (S5 _).out.mono ?_
  rintro e w4 ⟨v4, rfl, hrd4, hb4, _⟩
  have B4 := Lib.hid (B3.out.trans (((Below.refl w3.heap.size w3).alloc (Nat.le_refl _) (.cells #[.int .i64 0, .slice a3 _ c3, .bool true, .int .i64 0] 24)).trans (hb4.mono (by simp only [World.size_alloc]; omega)) |>.mono B3.out.size))
  have R4 := Lib.hid hrd4
  clear hrd4 hb4 t1 t2 u1 u2 k1 k2 k3 k4
  go_wp2_with fail
  refine (S4 _ _ R4.out).out.mono ?_
  rintro e w5 ⟨rfl, hb5⟩
  have B5 := Lib.hid (B4.out.trans (hb5.mono B4.out.size))
  clear hb5
  go_wp2_with fail
  go_ret
  exact ⟨rfl, B5.out⟩
end Go.Proofs.Ytaoagaokocnehaa
/- What comes in: slices of ints. -/
namespace Go.Proofs.Ytaoagaokocnehaa
set_option linter.unusedVariables false
set_option maxRecDepth 100000
set_option linter.unusedSimpArgs false
open Go.RowKit

/-- WHAT THE WALK IS TOLD OF A SLICE OF INTEGERS THAT CAME IN. -/
def IsRow (k : IntKind) (w : World) (a : Option Addr) (len cap : Nat) (zs : List Int) : Prop :=
  (a = none ∧ len = 0 ∧ cap = 0 ∧ zs = []) ∨
  ∃ x, a = some x ∧ len ≤ cap ∧ cap ≤ maxLen ∧ zs.length = cap ∧ (∀ i, i < zs.length → w.cell? (x.add i) = some (.int k (zs.getD i 0))) ∧ ∀ n ∈ zs, (Lit.int k n).wf = true

theorem IsRow.le {k : IntKind} {w : World} {a : Option Addr} {len cap : Nat} {zs : List Int} (h : IsRow k w a len cap zs) : len ≤ zs.length ∧ zs.length = cap ∧ cap ≤ 9223372036854775807 := by
  rcases h with ⟨_, rfl, rfl, rfl⟩ | ⟨x, _, h1, h2, h3, _⟩
  · simp
  · simp only [maxLen] at h2; omega
theorem IsRow.cell {k : IntKind} {w : World} {a : Option Addr} {len cap : Nat} {zs : List Int} (h : IsRow k w a len cap zs) {i : Nat} (hi : i < len) : ∃ b o, a = some ⟨b, o, none⟩ ∧ w.cell? ⟨b, o + i, none⟩ = some (.int k (zs.getD i 0)) ∧ b < w.heap.size := by
  rcases h with ⟨_, rfl, rfl, rfl⟩ | ⟨x, rfl, h1, h2, h3, h4, _⟩
  · omega
  · have hc := h4 i (by omega)
    have hs := World.cell?_spot (h4 0 (by omega))
    obtain ⟨b, o, spot⟩ := x
    have : spot = none := by simpa [Addr.add] using hs
    subst this
    have hadd : (⟨b, o, none⟩ : Addr).add i = ⟨b, o + i, none⟩ := by unfold Addr.add; split <;> simp_all
    rw [hadd] at hc
    exact ⟨b, o, rfl, hc, World.block_lt_of_cell? _ _ hc⟩
theorem IsRow.one {k : IntKind} {w : World} {a : Option Addr} {len cap : Nat} {zs : List Int} (h : IsRow k w a len cap zs) (hl : 0 < len) : ∃ b o, a = some ⟨b, o, none⟩ ∧ b < w.heap.size ∧ ∀ i, i < len → w.cell? ⟨b, o + i, none⟩ = some (.int k (zs.getD i 0)) := by
  obtain ⟨b, o, rfl, _, hb⟩ := h.cell hl
  refine ⟨b, o, rfl, hb, fun i hi => ?_⟩
  obtain ⟨b', o', e, hc, _⟩ := h.cell hi
  simp at e
  obtain ⟨rfl, rfl⟩ := e
  exact hc

theorem IsRow.rd {w : World} {a : Option Addr} {len cap : Nat} {zs : List Int} (h : IsRow .i64 w a len cap zs) : Rd w (.slice a len cap) (zs.take len) := by
  obtain ⟨h1, h2, h3⟩ := h.le
  have e : (zs.take len).length = len := by simp; omega
  refine ⟨a, cap, by rw [e], by omega, h3, fun hl => ?_⟩
  obtain ⟨b, o, rfl, hb, hc⟩ := h.one (by omega)
  refine ⟨b, o, rfl, hb, fun i hi => ?_⟩
  rw [hc i (by omega)]
  simp [List.getD_eq_getElem?_getD, List.getElem?_take, show i < len by omega]
end Go.Proofs.Ytaoagaokocnehaa
/- Arguments that are slices of structs, opened to their cells. -/
namespace Go.Proofs.Ytaoagaokocnehaa
set_option linter.unusedVariables false
set_option maxRecDepth 100000
set_option linter.unusedSimpArgs false
open Go.RowKit Go.ChangeShapes Go.WideShapes Go.Deep

/-- What a walk is told of a slice of structs of m ints. -/
def IsOps (w : World) (a : Option Addr) (len : Nat) (f : Nat → Nat → Int) (m : Nat) : Prop :=
  0 < len → ∃ b o, a = some ⟨b, o, none⟩ ∧ b < w.heap.size ∧ ∀ i j, i < len → j < m → w.cell? ⟨b, o + i * m + j, none⟩ = some (.int .i64 (f i j))

section
variable {H : Type} {enc : TypeId × Value → H} {P : Program} {w : World} {base : Nat} {spare : Nat → Bool} {held : Bool}
theorem open_slice_fields {t e : TypeId} {fs : Array Field} {fuel : Nat} {cs : List Value} {x : DataW H × List MemPlace} (ht : P.underlying t = some (.slice e)) (he : P.underlying e = some (.struct fs))
    (hone : oneCellFields P fs = true) (hC : P.cellsOf e = fs.size) (h : DataW.trod enc P w base spare held fuel t cs = some x) :
    (cs = [.slice none 0 0] ∧ x = (.nil, [])) ∨
    ∃ (a : Addr) (len cap m : Nat) (D : Nat → DataW H) (Pl : Nat → List MemPlace), cs = [.slice (some a) len cap] ∧ base ≤ a.block ∧ len ≤ cap ∧ cap ≤ maxLen ∧ m = (if spare a.block then cap else len) ∧
      x = (.slice ((List.range len).map D) ((List.range (m - len)).map fun j => D (len + j)), MemPlace.row a (m * fs.size) ++ (List.range m).flatMap Pl) ∧
      ∀ i, i < m → ∃ (ys : List (DataW H × List MemPlace)) (n : Nat), D i = .agg (ys.map (·.1)) ∧ Pl i = ys.flatMap (·.2) ∧ ys.length = fs.size ∧
        ∀ (j : Nat) (f : Field), fs[j]? = some f → ∃ (v : Value) (y : DataW H × List MemPlace), w.cell? (a.add (i * fs.size + j)) = some v ∧ ys[j]? = some y ∧ DataW.trod enc P w base spare held n f.type [v] = some y := by
  rcases open_slice ht h with h0 | ⟨a, len, cap, m, n, D, Pl, hcs, hb, hl, hm, hmm, hx, hi⟩
  · exact .inl h0
  · refine .inr ⟨a, len, cap, m, D, Pl, hcs, hb, hl, hm, hmm, by rw [hC] at hx; exact hx, fun i him => ?_⟩
    obtain ⟨cs', hc, ht'⟩ := hi i him
    rw [hC] at hc
    obtain ⟨ys, n', hn', hy, hlen, hyl, hf⟩ := DataW.trod_struct he ht'
    obtain ⟨_, hcl, hat⟩ := World.cells?_some hc
    simp only [Prod.mk.injEq] at hy
    refine ⟨ys, n', hy.1, hy.2, hyl, fun j f hj => ?_⟩
    obtain ⟨ho, hk⟩ := hone_of hone j f hj
    have hjl : j < fs.size := (Array.getElem?_eq_some_iff.1 hj).1
    have hcell := hat j hjl
    have hv : cs'[j]? = some (cs'[j]'(by omega)) := List.getElem?_eq_getElem (by omega)
    have h1 := hf j f hj
    rw [ho, hk] at h1
    have hone' : (cs'.drop j).take 1 = [cs'[j]'(by omega)] := by
      rw [List.drop_eq_getElem_cons (by omega)]
      rfl
    rw [hone'] at h1
    have hys : ys[j]? = some (ys[j]'(by omega)) := List.getElem?_eq_getElem (by omega)
    refine ⟨_, _, ?_, hys, h1.trans hys⟩
    rw [← Go.Deep.add_add, hcell, hv]

theorem addr_plain {b o i : Nat} : (⟨b, o, none⟩ : Addr).add i = ⟨b, o + i, none⟩ := by unfold Addr.add; split <;> simp_all

/-- A slice of structs whose n fields are ints: each cell an int. -/
theorem open_int_structs {t e it : TypeId} {fs : Array Field} {fuel : Nat} {x : DataW H × List MemPlace} (ht : P.underlying t = some (.slice e)) (he : P.underlying e = some (.struct fs))
    (hone : oneCellFields P fs = true) (hC : P.cellsOf e = fs.size) (hit : P.underlying it = some (.int .i64)) (hall : ∀ (j : Nat) (f : Field), fs[j]? = some f → f.type = it) (h0 : 0 < fs.size)
    (a : Option Addr) (len cap : Nat) (h : DataW.trod enc P w base (fun _ => true) held fuel t [.slice a len cap] = some x) :
    len ≤ 9223372036854775807 ∧ ∃ f : Nat → Nat → Int, IsOps w a len f fs.size := by
  rcases open_slice_fields ht he hone hC h with ⟨hcs, _⟩ | ⟨a', len', cap', m, D, Pl, hcs, _, hl, hm, hmm, _, hi⟩
  · simp at hcs
    obtain ⟨rfl, rfl, rfl⟩ := hcs
    exact ⟨by omega, fun _ _ => 0, fun h => by omega⟩
  · simp at hcs
    obtain ⟨rfl, rfl, rfl⟩ := hcs
    simp at hmm
    subst hmm
    have key : ∀ i j, i < len → j < fs.size → ∃ n, w.cell? (a'.add (i * fs.size + j)) = some (.int .i64 n) := by
      intro i j hil hj
      obtain ⟨ys, n, _, _, _, hf⟩ := hi i (by omega)
      obtain ⟨v, y, hc, _, hy⟩ := hf j fs[j] (by simp [hj])
      rw [hall j fs[j] (by simp [hj])] at hy
      obtain ⟨k, e0, _⟩ := DataW.trod_int hit hy
      simp at e0
      exact ⟨k, by rw [hc, e0]⟩
    simp only [maxLen] at hm
    refine ⟨by omega, fun i j => if h : i < len ∧ j < fs.size then (key i j h.1 h.2).choose else 0, fun hl0 => ?_⟩
    obtain ⟨n0, hc0⟩ := key 0 0 hl0 h0
    have hs := World.cell?_spot hc0
    obtain ⟨b, o, spot⟩ := a'
    have : spot = none := by simpa [Addr.add] using hs
    subst this
    refine ⟨b, o, rfl, ?_, fun i j hil hj => ?_⟩
    · have := World.block_lt_of_cell? _ _ hc0
      simpa [addr_plain] using this
    · have h2 := (key i j hil hj).choose_spec
      have e : (⟨b, o + i * fs.size + j, none⟩ : Addr) = (⟨b, o, none⟩ : Addr).add (i * fs.size + j) := by rw [addr_plain, Nat.add_assoc]
      show w.cell? ⟨b, o + i * fs.size + j, none⟩ = some (.int .i64 (if h : i < len ∧ j < fs.size then (key i j h.1 h.2).choose else 0))
      rw [dif_pos ⟨hil, hj⟩, e]
      exact h2
end
end Go.Proofs.Ytaoagaokocnehaa
/- Arguments that are states or operations, opened. -/
namespace Go.Proofs.Ytaoagaokocnehaa
set_option linter.unusedVariables false
set_option maxRecDepth 100000
set_option linter.unusedSimpArgs false
open Go.ChangeShapes Go.WideShapes Go.ChangeAt Go.RowKit Go.Deep

section
variable {H : Type} {enc : TypeId × Value → H}

theorem open_ints_row {W : World} {fuel : Nat} {c : Value} {x : DataW H × List MemPlace} (h : DataW.trod enc Try.prog W 0 (fun _ => true) true fuel 22 [c] = some x) :
    ∃ a len cap zs, c = .slice a len cap ∧ IsRow .i64 W a len cap zs := by
  rcases open_ints Try.underlying22 Try.underlying3 (by kernel_rfl) h with ⟨hcs, _⟩ | ⟨x, l, c, zs, hcs, _, hl, hm, hz, _, hcell, hwz⟩
  · simp at hcs
    exact ⟨_, _, _, [], hcs, .inl ⟨rfl, rfl, rfl, rfl⟩⟩
  · simp at hcs
    exact ⟨_, _, _, zs, hcs, .inr ⟨_, rfl, hl, hm, by simpa using hz, hcell, hwz⟩⟩

theorem Try.cells_state : Try.prog.cellsOf 24 = 4 := by kernel_rfl
theorem Try.cells_op : Try.prog.cellsOf 26 = 3 := by kernel_rfl
theorem Try.cells_int : Try.prog.cellsOf 3 = 1 := by kernel_rfl
theorem Try.cells_bool : Try.prog.cellsOf 4 = 1 := by kernel_rfl
theorem Try.cells_ints : Try.prog.cellsOf 22 = 1 := by kernel_rfl

theorem open_state {W : World} {v : Value} {d : DataW H} {ps : List MemPlace} (hok : Value.okWide Try.prog W .any 0 24 v) (hT : DataW.Trod enc Try.prog W 0 (fun _ => true) true 24 v d ps) :
    ∃ (s : St) (vl : Value), v = .agg #[.int .i64 s.kind, vl, .bool s.isSealed, .int .i64 s.to] ∧ Rd W vl s.L := by
  obtain ⟨fuel, hv⟩ := hT
  obtain ⟨y0, y1, y2, y3, m', hx', hl, u0, u1, u2, u3⟩ := Go.Joins.trod_struct4 Try.underlying24 hv
  rw [Try.cells_state] at hl
  obtain ⟨c0, c1, c2, c3, hc⟩ : ∃ c0 c1 c2 c3, v.cells.toList = [c0, c1, c2, c3] := by
    match hcs : v.cells.toList, hl with
    | [a, b, c, d], _ => exact ⟨a, b, c, d, rfl⟩
  rw [hc] at u0 u1 u2 u3
  simp only [Try.cells_int, Try.cells_bool, Try.cells_ints, List.drop, List.take] at u0 u1 u2 u3
  obtain ⟨k, e0, _, _⟩ := DataW.trod_int Try.underlying3 u0
  obtain ⟨a, len, cap, zs, rfl, hrow⟩ := open_ints_row u1
  obtain ⟨b, e2, _⟩ := DataW.trod_bool Try.underlying4 u2
  obtain ⟨t, e3, _, _⟩ := DataW.trod_int Try.underlying3 u3
  simp only [List.cons.injEq, and_true] at e0 e2 e3
  subst e0 e2 e3
  refine ⟨⟨k, zs.take len, b, t⟩, .slice a len cap, ?_, hrow.rd⟩
  cases v <;> simp [Value.cells, Value.okWide, Try.underlying24] at hc hok ⊢
  rename_i cs
  obtain ⟨l⟩ := cs
  simpa using hc

theorem open_op {W : World} {v : Value} {d : DataW H} {ps : List MemPlace} (hok : Value.okWide Try.prog W .any 0 26 v) (hT : DataW.Trod enc Try.prog W 0 (fun _ => true) true 26 v d ps) :
    ∃ o : Op3, v = .agg #[.int .i64 o.code, .int .i64 o.a, .int .i64 o.b] := by
  obtain ⟨fuel, hv⟩ := hT
  obtain ⟨y0, y1, y2, m', hx', hl, u0, u1, u2⟩ := trod_struct3 Try.underlying26 hv
  rw [Try.cells_op] at hl
  obtain ⟨c0, c1, c2, hc⟩ : ∃ c0 c1 c2, v.cells.toList = [c0, c1, c2] := by
    match hcs : v.cells.toList, hl with
    | [a, b, c], _ => exact ⟨a, b, c, rfl⟩
  rw [hc] at u0 u1 u2
  simp only [Try.cells_int, List.drop, List.take] at u0 u1 u2
  obtain ⟨k, e0, _, _⟩ := DataW.trod_int Try.underlying3 u0
  obtain ⟨a, e1, _, _⟩ := DataW.trod_int Try.underlying3 u1
  obtain ⟨b, e2, _, _⟩ := DataW.trod_int Try.underlying3 u2
  simp only [List.cons.injEq, and_true] at e0 e1 e2
  subst e0 e1 e2
  refine ⟨⟨k, a, b⟩, ?_⟩
  cases v <;> simp [Value.cells, Value.okWide, Try.underlying26] at hc hok ⊢
  rename_i cs
  obtain ⟨l⟩ := cs
  simpa using hc
end
end Go.Proofs.Ytaoagaokocnehaa
