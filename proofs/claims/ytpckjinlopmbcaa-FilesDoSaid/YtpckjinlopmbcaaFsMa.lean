/-
  Package files: what Crash does, in memory.
-/
import Derived.Test.YtpckjinlopmbcaaFsM9
import Derived.MapKept
namespace Go.Proofs.Ytpckjinlopmbcaa
set_option linter.unusedVariables false
set_option maxRecDepth 100000
set_option linter.unusedSimpArgs false
open Go.RowKit Go.Maps
/-- clear(m): a map of names is empty. -/
theorem run_clear_dir {w : World} {fb : Nat → Nat} {b : Nat} {l : Dir} (h : OwnD w fb b l) : ∃ w', (∀ ty, (Builtin.clear_ #[57] ty #[.map (some b)]).run Try.prog w = .ok (.tuple #[]) w') ∧ OwnD w' fb b [] ∧ Keeps (fun q => q = b) w w' := by
  obtain ⟨es, clock, hb, F, hs, hD⟩ := h
  refine ⟨{ w with heap := w.heap.setIfInBounds b (.map #[] clock) }, fun ty => by simp [Builtin.clear_, run_underlying Try.underlying57, MapKept.run_getObj_map hb, MapKept.run_setObj_map _ hb, Result.andThen], ⟨#[], clock, (MapKept.heap_set hb).1, ⟨by simp, MapKept.stamped_empty clock, by simp⟩, Nat.le_refl _, rfl⟩, ⟨rfl, rfl, rfl, ?_, fun k hk hne => ?_⟩⟩
  · simp
  · exact (MapKept.heap_set hb).2 k hne
theorem mem_app {l : Dir} {c : Chg} {many : Nat} (hl : ∀ x ∈ l, x.2 < many) (hc : ChgLt many c) : ∀ x ∈ c.app l, x.2 < many := by
  intro x hx
  cases c with
  | put n f =>
    rcases mem_putD.1 hx with rfl | hx
    · exact hc
    · exact hl x hx.1
  | ren n f to =>
    rcases mem_putD.1 hx with rfl | hx
    · exact hc
    · exact hl x (mem_rmD.1 hx.1).1
  | rem n => exact hl x (mem_rmD.1 hx).1
/-- The names when so many changes are kept. -/
def FS.upto (S : FS) (k : Nat) : Dir := (S.waits.take k).foldl Chg.app S.kept
theorem upto_succ (S : FS) {k : Nat} {c : Chg} (hc : S.waits[k]? = some c) : S.upto (k + 1) = c.app (S.upto k) := by
  unfold FS.upto
  rw [List.take_add_one, hc, Option.toList_some, List.foldl_append]; rfl
theorem upto_inv {S : FS} (h : FInv S) (k : Nat) : Ris (S.upto k) ∧ (∀ x ∈ S.upto k, x.2 < S.many) ∧ (S.upto k).length ≤ S.kept.length + k := by
  induction k with
  | zero => exact ⟨h.kept, fun x hx => h.lt x (.inr hx), Nat.le_refl _⟩
  | succ k ih =>
    rcases Nat.lt_or_ge k S.waits.length with hk | hk
    · have hc : S.waits[k]? = some S.waits[k] := List.getElem?_eq_getElem hk
      rw [upto_succ S hc]
      exact ⟨ih.1.app _, mem_app ih.2.1 (h.wlt _ (List.getElem_mem hk)), by have := length_app (S.upto k) S.waits[k]; omega⟩
    · have e : S.upto (k + 1) = S.upto k := by unfold FS.upto; rw [List.take_of_length_le (by omega), List.take_of_length_le hk]
      rw [e]; exact ⟨ih.1, ih.2.1, by omega⟩
theorem back_upto (S : FS) (names : Int) : S.back names = S.upto (pickN names S.waits.length) := rfl
/-- The disk behind the changes that are kept. -/
def FS.back0 (S : FS) (names : Int) : FS := { S with kept := S.back names, now := S.back names, waits := [], out := false, armed := false }
theorem FInv.back0 {S : FS} (h : FInv S) (names : Int) : FInv (S.back0 names) := by
  obtain ⟨h1, h2, h3⟩ := upto_inv h (pickN names S.waits.length)
  exact ⟨h1, h1, fun x hx => h2 x (hx.elim id id), fun c hc => by simp [FS.back0] at hc, h.le, rfl⟩
theorem Small.back0 {S : FS} {m : Nat} (h : Small S m) (hi : FInv S) (names : Int) : Small (S.back0 names) m := by
  obtain ⟨h1, h2, h3⟩ := upto_inv hi (pickN names S.waits.length)
  have := pickN_le names S.waits.length
  have := h.dirs
  refine ⟨h.top, h.room, h.left, fun e => by simp [FS.back0] at e, h.many, ?_, ?_, h.len⟩
  · show (S.upto (pickN names S.waits.length)).length + 0 ≤ m
    omega
  · show (S.upto (pickN names S.waits.length)).length ≤ m
    omega
def noW (R : FRef) : FRef := { R with vw := .slice none 0 0, wv := [] }
section
variable {w w' W : World} {base bd m : Nat} {fp fp' : Nat → Prop} {R : FRef} {S : FS}
theorem DRep0.back (h : DRep0 w base fp bd R S) (names : Int) (k : Keeps (fun q => q = R.bk ∨ q = R.bn ∨ q = bd) w W) (mk : OwnD W R.fb R.bk (S.back names)) (mn : OwnD W R.fb R.bn (S.back names)) (hB : Blk W bd (dskV (noW R) (S.back0 names)) 60) : DRep0 W base fp bd (noW R) (S.back0 names) := by
  have P := h.parts
  have nb : ∀ {q : Nat} {cs : Array Value} {T : TypeId}, Blk w q cs T → T ≠ 60 → ¬ (q = R.bk ∨ q = R.bn ∨ q = bd) := fun hq ht e => by
    rcases e with e | e | e
    · exact ownD_ne P.kept hq e.symm
    · exact ownD_ne P.now hq e.symm
    · exact blk_ne hq h.blk ht e
  have no : ∀ {e : TypeId} {s n : Nat} {v : Value} {xs : List Value}, Own w e s v n xs → e ≠ 60 → ∀ q, v.ownBlock = some q → ¬ (q = R.bk ∨ q = R.bn ∨ q = bd) := fun ho ht q hq e => by
    rcases e with e | e | e
    · exact ownD_ne' P.kept ho (e ▸ hq)
    · exact ownD_ne' P.now ho (e ▸ hq)
    · exact own_blk_ne ho h.blk ht (e ▸ hq)
  refine ⟨hB, h.fpd, ⟨mk, mn, P.ne, P.fpk, P.fpn, P.files.keeps k (fun f hf => nb (P.files.blk f hf) (by decide)) (fun f q hf hq => no (P.files.own f hf) (by decide) q hq) (fun _ h => h) (fun _ _ => rfl) (fun _ _ => rfl), ?_⟩, h.inv.back0 names, fun q hq => ⟨(h.lt q hq).1, Nat.lt_of_lt_of_le (h.lt q hq).2 k.size⟩⟩
  exact ⟨World.ownsRow_nil .., rfl, fun i c hi => by simp [FS.back0] at hi, fun q hq => by simp [noW, Value.ownBlock] at hq⟩
theorem own_take {w : World} {e : TypeId} {a : Option Addr} {len c n : Nat} {xs : List Value} (h : Own w e 1 (.slice a len c) len xs) (hn : n ≤ len) : Own w e 1 (.slice a n c) n (xs.take n) := by
  refine ⟨by have := h.1; rw [List.length_take]; omega, ?_⟩
  rcases h.2 with ⟨e1, e2⟩ | ⟨g, cap, cur, e1, hb, hh, h1, h2, h3, h4⟩
  · injection e1 with ea el ec
    subst ea ec
    have : n = 0 := by omega
    subst this
    exact .inl ⟨rfl, rfl⟩
  · injection e1 with ea el ec
    subst ea ec
    refine .inr ⟨g, c, cur, rfl, hb, hh, by omega, h2, h3, ?_⟩
    rw [← h4, List.take_take]
    congr 1
    omega
theorem byt_take (l : List Int) (n : Nat) : (byt l).take n = byt (l.take n) := by unfold byt; rw [List.map_take]
theorem fpAll_same {fp : Nat → Prop} {w w' : World} (h : w'.heap.size = w.heap.size) : fpAll fp w w' = fp := by
  funext q
  exact propext ⟨fun h1 => h1.elim id (fun h2 => by omega), .inl⟩
/-- How much of a file stays. -/
def keepN (keep : List Int) (i : Nat) (x : PFile) : Nat := x.kept + if keep = [] then 0 else pickN (keep.getD (i % keep.length) 0) (x.b.length - x.kept)
theorem keepN_le (keep : List Int) (i : Nat) (x : PFile) (h : x.kept ≤ x.b.length) : keepN keep i x ≤ x.b.length := by
  unfold keepN
  split
  · omega
  · have := pickN_le (keep.getD (i % keep.length) 0) (x.b.length - x.kept)
    omega
theorem trimF_eq (keep : List Int) (i : Nat) (x : PFile) : trimF keep i x = ⟨x.b.take (keepN keep i x), keepN keep i x⟩ := rfl
/-- The disk when the first files are cut. -/
def FS.cutTo (S : FS) (names : Int) (keep : List Int) (i : Nat) : FS := { S.back0 names with files := trimAll keep (S.back names) S.files i }
theorem cutTo_zero (S : FS) (names : Int) (keep : List Int) : S.cutTo names keep 0 = S.back0 names := rfl
theorem cutTo_all (S : FS) (names : Int) (keep : List Int) : S.cutTo names keep (S.back names).length = S.crash names keep := rfl
theorem cutTo_succ (S : FS) (names : Int) (keep : List Int) {i : Nat} {x : Int × Nat} (hx : (S.back names)[i]? = some x) : S.cutTo names keep (i + 1) = (S.cutTo names keep i).setF x.2 (trimF keep i ((S.cutTo names keep i).files x.2)) := by
  unfold FS.cutTo FS.setF
  simp only [trimAll, hx]
theorem Small.cutTo (h : Small S m) (hi : FInv S) (names : Int) (keep : List Int) (i : Nat) : Small (S.cutTo names keep i) m := by
  have h0 := h.back0 hi names
  refine ⟨h0.top, h0.room, h0.left, h0.leftA, h0.many, h0.dirs, h0.nowl, fun f => ?_⟩
  show (trimAll keep (S.back names) S.files i f).b.length ≤ 300 * m
  induction i with
  | zero => exact h.len f
  | succ i ih =>
    simp only [trimAll]
    cases hx : (S.back names)[i]? with
    | none => exact ih
    | some x =>
      by_cases e : f = x.2
      · subst e
        show (updF (trimAll keep (S.back names) S.files i) x.2 (trimF keep i (trimAll keep (S.back names) S.files i x.2)) x.2).b.length ≤ _
        rw [updF_same, trimF_eq]
        exact Nat.le_trans (by simp; omega) ih
      · show (updF (trimAll keep (S.back names) S.files i) x.2 (trimF keep i (trimAll keep (S.back names) S.files i x.2)) f).b.length ≤ _
        rw [updF_ne _ _ e]; exact ih
/-- One file cut. -/
theorem DRep0.trim (h : DRep0 w base fp bd R S) (hw : base ≤ w.heap.size) {f n : Nat} (hf : f < S.many) (hn : n ≤ (S.files f).b.length) {fa : Option Addr} {fc : Nat} (efv : R.fv f = .slice fa (S.files f).b.length fc) :
    DRep0 ((w.setCell ⟨R.fb f, 0, none⟩ (.slice fa n fc)).setCell ⟨R.fb f, 1, none⟩ (.int .i64 n)) base fp bd { R with fv := updV R.fv f (.slice fa n fc) } (S.setF f ⟨(S.files f).b.take n, n⟩) := by
  have P := h.parts
  have hB := P.files.blk f hf
  have hO := P.files.own f hf
  rw [efv] at hO
  have k : Keeps (fun q => q = R.fb f) w ((w.setCell ⟨R.fb f, 0, none⟩ (.slice fa n fc)).setCell ⟨R.fb f, 1, none⟩ (.int .i64 n)) := (((Keeps.refl (fun q => q = R.fb f) w).set _ 0 (.inl rfl) _).set _ 1 (.inl rfl) _)
  have hl : ((S.files f).b.take n).length = n := by rw [List.length_take]; omega
  have ht := own_take hO hn
  rw [byt_take] at ht
  have hb1 := hB.set 0 (.slice fa n fc)
  have := h.setF hw hf k (fun q e => .inl e) (.slice fa n fc) ⟨(S.files f).b.take n, n⟩ (by rw [hl]; exact Nat.le_refl _) (by simpa using hb1.set 1 (.int .i64 n)) (by rw [hl]; exact own_set (own_set ht hB (by decide) 0 _) hb1 (by decide) 1 _) (fun q hq => .inl (by rw [efv]; cases fa <;> simp [Value.ownBlock] at hq ⊢; exact hq))
  rw [fpAll_same (by simp)] at this
  exact this
end
end Go.Proofs.Ytpckjinlopmbcaa
