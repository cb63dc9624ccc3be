/-
  Package herlihy: how its object lies in memory.
-/
import Derived.Test.YtjfenjnnpikkdaaWLast
import Derived.Laws.EntriesVeiled
import Derived.Outline
import Derived.Test.YtjfenjnnpikkdaaKba
import Derived.Test.YtjfenjnnpikkdaaKh
set_option linter.unusedVariables false
set_option linter.unusedSimpArgs false
namespace Go.Proofs.Ytjfenjnnpikkdaa
set_option maxRecDepth 100000
open Go.RowKit

/-- Whose a block is. -/
inductive HTag | eng | mach | proc (p : Nat) | node | imm
  deriving DecidableEq
structure HRef where
  bm : Nat
  vc : Value
  vs : Value
  steps : List Int
  vp : Value
  vn : Value
  sv : Value
  pa : Nat → Nat
  na : Nat → Nat
  bef : Nat → Int
  own : Nat → Option HTag

def hphV (b : Nat) : HPh → Value
  | .idle => .nilFunc
  | .announce => bound 57 b
  | .lookHead => bound 79 b
  | .lookPlace => bound 89 b
  | .take => bound 92 b
  | .ask => bound 98 b
  | .offer => bound 102 b
  | .check => bound 105 b
  | .swap => bound 104 b
  | .follow => bound 106 b
  | .reckon => bound 107 b
  | .number => bound 108 b
  | .move => bound 109 b
  | .finish => bound 101 b
abbrev hprocV (be p : Nat) (x : HProc) (b : Int) (f : Value) : Array Value :=
  #[ptrV be, .int .i64 p, .int .i64 x.node, .int .i64 x.many, .int .i64 b, f, .int .i64 x.q, .int .i64 x.other, .int .i64 x.after, .int .i64 x.at_, .int .i64 x.turn, .int .i64 x.prefer]
abbrev hengV (s : St) (R : HRef) (n : Nat) : Array Value := #[.int .i64 s.kind, R.sv, .bool s.isSealed, .int .i64 s.to, ptrV R.bm, .int .i64 0, .int .i64 n, R.vp, R.vn]
/-- The first of a node's three cells. -/
abbrev ncell (n i : Nat) : Nat := 2 * n + 3 * i
abbrev hnodeV (n i : Nat) (v : HNode) (vl : Value) : Array Value := #[.int .i64 v.proc, .int .i64 v.seq, .int .i64 (ncell n i), .int .i64 (ncell n i + 1 : Nat), .int .i64 (ncell n i + 2 : Nat), .int .i64 v.op.code, .int .i64 v.op.a, .int .i64 v.op.b, .int .i64 v.st.kind, vl, .bool v.st.isSealed, .int .i64 v.st.to, .int .i64 v.resp]
/-- What a cell of the machine holds. -/
def cval (n : Nat) (H : HS) (c : Nat) : Int :=
  if c < n then H.ann c else if c < 2 * n then H.head (c - n) else
    if (c - 2 * n) % 3 = 0 then (H.nd ((c - 2 * n) / 3)).place else if (c - 2 * n) % 3 = 1 then nextOf H.chain ((c - 2 * n) / 3) else if (H.nd ((c - 2 * n) / 3)).done = true then 1 else 0
def cellsH (n : Nat) (H : HS) : List Int := (List.range (2 * n + 3 * H.nodes.length)).map (cval n H)
/-- A node in memory. -/
def NRep (w : World) (base : Nat) (own : Nat → Option HTag) (n b i : Nat) (v : HNode) : Prop :=
  own b = some .node ∧ ∃ vl, Blk w b (hnodeV n i v vl) 102 ∧ Rd w vl v.st.L ∧ (0 < v.st.L.length → ∀ k, vl.ownBlock = some k → own k = some .imm ∨ k < base)
theorem NRep.keeps {w w' : World} {base n b i : Nat} {own own' : Nat → Option HTag} {v : HNode} {F : Nat → Prop} (h : NRep w base own n b i v) (k : Keeps F w w') (hb : ¬ F b) (hF : ∀ k, F k → own k ≠ some .imm ∧ base ≤ k) (ho : ∀ k t, own k = some t → own' k = some t) : NRep w' base own' n b i v := by
  obtain ⟨h0, vl, h1, h2, h3⟩ := h
  refine ⟨ho _ _ h0, vl, h1.keeps k hb, rd_keeps h2 k ?_, fun h0 q hq => (h3 h0 q hq).imp (ho q _) id⟩
  intro h0 q hq hf
  rcases h3 h0 q hq with g | g
  · exact (hF q hf).1 g
  · have := (hF q hf).2; omega
structure HXRep (w : World) (own : Nat → Option HTag) (be b p : Nat) (x : HProc) (bf : Int) : Prop where
  tag : own b = some (.proc p)
  blk : Blk w b (hprocV be p x bf (hphV b x.ph)) 98
structure HRep (w : World) (base be : Nat) (R : HRef) (n : Nat) (s : St) (H : HS) : Prop where
  small : 0 < n ∧ n ≤ 64
  fresh : ∀ k, R.own k ≠ none → base ≤ k ∧ k < w.heap.size
  eng : Blk w be (hengV s R n) 95
  engT : R.own be = some .eng
  start : Rd w R.sv s.L
  startT : 0 < s.L.length → ∀ k, R.sv.ownBlock = some k → R.own k = some .imm ∨ k < base
  mach : Mach w R.bm R.vc R.vs ⟨cellsH n H, R.steps⟩
  machT : ∀ k, machF R.bm R.vc R.vs k → R.own k = some .mach
  procs : Own w 96 1 R.vp n ((List.range n).map fun p => ptrV (R.pa p))
  procsT : ∀ k, R.vp.ownBlock = some k → R.own k = some .eng
  proc : ∀ p, p < n → HXRep w R.own be (R.pa p) p (H.procs p) (R.bef p)
  nodes : Own w 100 1 R.vn H.nodes.length ((List.range H.nodes.length).map fun i => ptrV (R.na i))
  nodesT : ∀ k, R.vn.ownBlock = some k → R.own k = some .eng
  node : ∀ i, i < H.nodes.length → NRep w base R.own n (R.na i) i (H.nd i)
  inj : ∀ i j, i < H.nodes.length → j < H.nodes.length → R.na i = R.na j → i = j
section
variable {w w' : World} {base be n p : Nat} {R : HRef} {s : St} {H : HS}
theorem HRep.keeps {F : Nat → Prop} (h : HRep w base be R n s H) (k : Keeps F w w') (hF : ∀ k, F k → R.own k = none ∧ base ≤ k) : HRep w' base be R n s H := by
  have hne : ∀ k, R.own k ≠ none → ¬ F k := fun k hk hf => hk (hF k hf).1
  have hs : ∀ {t : HTag} {k}, R.own k = some t → ¬ F k := fun hk => hne _ (by rw [hk]; simp)
  refine ⟨h.small, fun q hq => ⟨(h.fresh q hq).1, Nat.lt_of_lt_of_le (h.fresh q hq).2 k.size⟩, h.eng.keeps k (hs h.engT), h.engT, rd_keeps h.start k ?_, h.startT, h.mach.keeps k (fun q hq => hs (h.machT q hq)), h.machT, own_keeps h.procs k (fun q hq => hs (h.procsT q hq)), h.procsT,
    fun q hq => ⟨(h.proc q hq).tag, (h.proc q hq).blk.keeps k (hs (h.proc q hq).tag)⟩, own_keeps h.nodes k (fun q hq => hs (h.nodesT q hq)), h.nodesT,
    fun i hi => (h.node i hi).keeps k (hs (h.node i hi).1) (fun j hj => ⟨by rw [(hF j hj).1]; simp, (hF j hj).2⟩) (fun _ _ e => e), h.inj⟩
  intro h0 q hq hf
  rcases h.startT h0 q hq with g | g
  · exact hs g hf
  · have := (hF q hf).2; omega
/-- The blocks that a step of process p turns. -/
def hturnF (R : HRef) (p : Nat) (k : Nat) : Prop := machF R.bm R.vc R.vs k ∨ k = R.pa p
/-- A step of a process that tells nothing of the nodes: its own block and the machine are turned. -/
theorem HRep.turn (h : HRep w base be R n s H) (hp : p < n) (k : Keeps (hturnF R p) w w') (ann' head' : Nat → Nat) (chain' : List Nat) (nodes' : List HNode) (steps : List Int)
    (hl : nodes'.length = H.nodes.length) (hnv : ∀ i, i < H.nodes.length → ∃ (pl : Nat) (dn : Bool), nodes'.getD i noNode = { H.nd i with place := pl, done := dn })
    (x : HProc) (bf : Int) (hM : Mach w' R.bm R.vc R.vs ⟨cellsH n ⟨nodes', chain', ann', head', upd H.procs p x⟩, steps⟩) (hX : Blk w' (R.pa p) (hprocV be p x bf (hphV (R.pa p) x.ph)) 98) :
    HRep w' base be { R with steps := steps, bef := upd R.bef p bf } n s ⟨nodes', chain', ann', head', upd H.procs p x⟩ := by
  have hF : ∀ k, hturnF R p k → R.own k = some .mach ∨ R.own k = some (.proc p) := fun k hk => by
    rcases hk with hk | rfl
    · exact .inl (h.machT k hk)
    · exact .inr (h.proc p hp).tag
  have hs : ∀ {t : HTag} {k}, t ≠ .mach → t ≠ .proc p → R.own k = some t → ¬ hturnF R p k := fun h1 h2 hk hf => by
    rcases hF _ hf with e | e <;> rw [hk] at e <;> injection e with e
    · exact h1 e
    · exact h2 e
  have hba : ∀ k, hturnF R p k → base ≤ k := fun k hk => (h.fresh k (by rcases hF k hk with e | e <;> rw [e] <;> simp)).1
  refine ⟨h.small, fun q hq => ⟨(h.fresh q hq).1, Nat.lt_of_lt_of_le (h.fresh q hq).2 k.size⟩, h.eng.keeps k (hs (by simp) (by simp) h.engT), h.engT, rd_keeps h.start k ?_, h.startT, hM, h.machT, own_keeps h.procs k (fun q hq => hs (by simp) (by simp) (h.procsT q hq)), h.procsT, ?_,
    ?_, h.nodesT, ?_, fun i j hi hj e => h.inj i j (by rw [← hl]; exact hi) (by rw [← hl]; exact hj) e⟩
  · intro h0 q hq hf
    rcases h.startT h0 q hq with g | g
    · exact hs (by simp) (by simp) g hf
    · have := hba q hf; omega
  · intro q hq
    by_cases e : q = p
    · subst e
      refine ⟨(h.proc q hq).tag, ?_⟩
      simp only [upd_same]
      exact hX
    · have hx := h.proc q hq
      refine ⟨hx.tag, ?_⟩
      simp only [upd_ne _ _ e]
      exact hx.blk.keeps k (hs (by simp) (by simp; exact e) hx.tag)
  · show Own w' _ 1 R.vn nodes'.length ((List.range nodes'.length).map fun i => ptrV (R.na i))
    rw [hl]
    exact own_keeps h.nodes k (fun q hq => hs (by simp) (by simp) (h.nodesT q hq))
  · intro i hi
    have hi' : i < H.nodes.length := by rw [← hl]; exact hi
    obtain ⟨pl, dn, e⟩ := hnv i hi'
    have hn := (h.node i hi').keeps k (hs (by simp) (by simp) (h.node i hi').1) (fun j hj => ⟨by rcases hF j hj with c | c <;> rw [c] <;> simp, hba j hj⟩) (fun _ _ e => e)
    show NRep w' base R.own n (R.na i) i (nodes'.getD i noNode)
    rw [e]; exact hn
end
/-- What a method leaves. -/
def HPost (w : World) (base be : Nat) (R : HRef) (n : Nat) (s : St) (H' : HS) (v : Value) (e : Ending) (w' : World) : Prop :=
  e = .returned v ∧ ∃ R', HRep w' base be R' n s H' ∧ (∀ k, k < w.heap.size → R'.own k = R.own k) ∧ Keeps (fun k => R.own k ≠ none) w w'
end Go.Proofs.Ytjfenjnnpikkdaa
/- Package herlihy: its cells. -/
namespace Go.Proofs.Ytjfenjnnpikkdaa
set_option maxRecDepth 100000
open Go.RowKit

section
variable {w w' : World} {base be n p : Nat} {R : HRef} {s : St} {H H' : HS}
theorem cellsH_len (n : Nat) (H : HS) : (cellsH n H).length = 2 * n + 3 * H.nodes.length := by simp [cellsH]
theorem cellsH_has {c : Nat} (hc : c < 2 * n + 3 * H.nodes.length) (l : List Int) : (⟨cellsH n H, l⟩ : MS).has (c : Int) := ⟨by omega, by simp only [cellsH_len]; omega⟩
theorem cellsH_get {c : Nat} (hc : c < 2 * n + 3 * H.nodes.length) (l : List Int) : (⟨cellsH n H, l⟩ : MS).get (c : Int) = cval n H c := by
  unfold MS.get
  rw [if_pos (cellsH_has hc l)]
  simp [cellsH, List.getD_eq_getElem?_getD, hc]
theorem cellsH_set {c : Nat} (hc : c < 2 * n + 3 * H.nodes.length) (v : Int) (hl : H'.nodes.length = H.nodes.length) (hv : ∀ j, j < 2 * n + 3 * H.nodes.length → cval n H' j = if j = c then v else cval n H j) : (cellsH n H).set c v = cellsH n H' := by
  unfold cellsH
  rw [hl]
  apply List.ext_getElem?
  intro i
  rw [List.getElem?_set]
  by_cases hi : i < 2 * n + 3 * H.nodes.length
  · by_cases e : c = i
    · subst e; simp [hc, hv c hc]
    · have e' : ¬ i = c := fun h => e h.symm
      rw [if_neg e]; simp [hi, hv i hi, e']
  · have hne : ¬ c = i := by omega
    rw [if_neg hne]; simp [hi]
theorem cellsH_put {c : Nat} (hc : c < 2 * n + 3 * H.nodes.length) (l : List Int) (p : Int) (v : Int) (hl : H'.nodes.length = H.nodes.length) (hv : ∀ j, j < 2 * n + 3 * H.nodes.length → cval n H' j = if j = c then v else cval n H j) :
    ∃ s', ((⟨cellsH n H, l⟩ : MS).step p).put (c : Int) v = ⟨cellsH n H', s'⟩ := by
  obtain ⟨s', hs⟩ := step_cellsP (cellsH n H) l p
  rw [hs]
  refine ⟨s', ?_⟩
  unfold MS.put
  rw [if_pos (cellsH_has hc s')]
  simp only [Int.toNat_natCast]
  rw [cellsH_set hc v hl hv]
section
variable {bm : Nat} {vc vs : Value} {l : List Int}
theorem rd_h (h : Mach w bm vc vs ⟨cellsH n H, l⟩) {c : Nat} (hc : c < 2 * n + 3 * H.nodes.length) (p : Int) : Calls Try.prog 62 #[.pointer (some ⟨bm, 0, none⟩), .int .i64 p, .int .i64 c] w fun e w' =>
    e = .returned (.int .i64 (cval n H c)) ∧ (∃ s', Mach w' bm vc vs ⟨cellsH n H, s'⟩) ∧ Keeps (machF bm vc vs) w w' := by
  refine (mach_read h p c).mono ?_
  rintro e w' ⟨rfl, hM, hK⟩
  obtain ⟨s', hs⟩ := step_cellsP (cellsH n H) l p
  rw [hs] at hM
  exact ⟨by rw [cellsH_get hc], ⟨s', hM⟩, hK⟩
theorem wr_h (h : Mach w bm vc vs ⟨cellsH n H, l⟩) (H' : HS) {c : Nat} (hc : c < 2 * n + 3 * H.nodes.length) (p v : Int) (hl : H'.nodes.length = H.nodes.length) (hv : ∀ j, j < 2 * n + 3 * H.nodes.length → cval n H' j = if j = c then v else cval n H j) :
    Calls Try.prog 53 #[.pointer (some ⟨bm, 0, none⟩), .int .i64 p, .int .i64 c, .int .i64 v] w fun e w' =>
    e = .returned (.tuple #[]) ∧ (∃ s', Mach w' bm vc vs ⟨cellsH n H', s'⟩) ∧ Keeps (machF bm vc vs) w w' := by
  refine (mach_write h p c v).mono ?_
  rintro e w' ⟨rfl, hM, hK⟩
  obtain ⟨s', hs⟩ := cellsH_put (H := H) (H' := H') hc l p v hl hv
  rw [hs] at hM
  exact ⟨rfl, ⟨s', hM⟩, hK⟩
theorem sw_h (h : Mach w bm vc vs ⟨cellsH n H, l⟩) (H' : HS) {c : Nat} (hc : c < 2 * n + 3 * H.nodes.length) (p o v : Int) (hl : H'.nodes.length = H.nodes.length) (hv : ∀ j, j < 2 * n + 3 * H.nodes.length → cval n H' j = if j = c ∧ cval n H c = o then v else cval n H j) :
    Calls Try.prog 94 #[.pointer (some ⟨bm, 0, none⟩), .int .i64 p, .int .i64 c, .int .i64 o, .int .i64 v] w fun e w' =>
    (∃ b, e = .returned (.bool b)) ∧ (∃ s', Mach w' bm vc vs ⟨cellsH n H', s'⟩) ∧ Keeps (machF bm vc vs) w w' := by
  refine (mach_swap h p c o v).mono ?_
  rintro e w' ⟨rfl, hM, hK⟩
  refine ⟨⟨_, rfl⟩, ?_, hK⟩
  obtain ⟨s', hs⟩ := step_cellsP (cellsH n H) l p
  unfold MS.swap at hM
  by_cases e : cval n H c = o
  · rw [if_pos ⟨cellsH_has hc l, by rw [cellsH_get hc]; exact e⟩, hs] at hM
    unfold MS.put at hM
    rw [if_pos (cellsH_has hc s')] at hM
    simp only [Int.toNat_natCast] at hM
    rw [cellsH_set (H' := H') hc v hl (fun j hj => by rw [hv j hj]; simp [e])] at hM
    exact ⟨s', hM⟩
  · rw [if_neg (fun g => e (by have := g.2; rw [cellsH_get hc] at this; exact this)), hs] at hM
    have : cellsH n H' = cellsH n H := by
      unfold cellsH
      rw [hl]
      apply List.map_congr_left
      intro j hj
      rw [hv j (List.mem_range.1 hj), if_neg (fun g => e g.2)]
    rw [this]
    exact ⟨s', hM⟩
end
theorem cval_ann {q : Nat} (hq : q < n) : cval n H q = H.ann q := by unfold cval; rw [if_pos hq]
theorem cval_head {q : Nat} (hq : q < n) : cval n H (n + q) = H.head q := by unfold cval; rw [if_neg (by omega), if_pos (by omega), show n + q - n = q by omega]
theorem cval_place (i : Nat) : cval n H (ncell n i) = (H.nd i).place := by
  unfold cval ncell
  rw [if_neg (by omega), if_neg (by omega), if_pos (by omega), show (2 * n + 3 * i - 2 * n) / 3 = i by omega]
theorem cval_next (i : Nat) : cval n H (ncell n i + 1) = nextOf H.chain i := by
  unfold cval ncell
  rw [if_neg (by omega), if_neg (by omega), if_neg (by omega), if_pos (by omega), show (2 * n + 3 * i + 1 - 2 * n) / 3 = i by omega]
theorem cval_done (i : Nat) : cval n H (ncell n i + 2) = if (H.nd i).done = true then 1 else 0 := by
  unfold cval ncell
  rw [if_neg (by omega), if_neg (by omega), if_neg (by omega), if_neg (by omega), show (2 * n + 3 * i + 2 - 2 * n) / 3 = i by omega]
theorem cval_ann_upd {q : Nat} (hq : q < n) (a j : Nat) : cval n { H with ann := upd H.ann q a } j = if j = q then (a : Int) else cval n H j := by
  unfold cval
  by_cases e : j = q
  · subst e; rw [if_pos rfl, if_pos hq]; show ((upd H.ann j a j : Nat) : Int) = a; rw [upd_same]
  · rw [if_neg e]
    by_cases h1 : j < n
    · rw [if_pos h1, if_pos h1]; show ((upd H.ann q a j : Nat) : Int) = _; rw [upd_ne _ _ e]
    · rw [if_neg h1, if_neg h1]; rfl
theorem cval_head_upd {q : Nat} (hq : q < n) (a j : Nat) : cval n { H with head := upd H.head q a } j = if j = n + q then (a : Int) else cval n H j := by
  unfold cval
  by_cases h1 : j < n
  · rw [if_pos h1, if_pos h1, if_neg (by omega)]
  · rw [if_neg h1, if_neg h1]
    by_cases h2 : j < 2 * n
    · rw [if_pos h2, if_pos h2]
      show ((upd H.head q a (j - n) : Nat) : Int) = _
      by_cases e : j = n + q
      · rw [if_pos e, show j - n = q by omega, upd_same]
      · rw [if_neg e, upd_ne _ _ (by omega)]
    · have e : ¬ j = n + q := by omega
      rw [if_neg h2, if_neg h2, if_neg e]; rfl
theorem ncell_lt {i j : Nat} (hi : i < H.nodes.length) (hj : j < 3) : ncell n i + j < 2 * n + 3 * H.nodes.length := by unfold ncell; omega
end
end Go.Proofs.Ytjfenjnnpikkdaa
/- Package herlihy: goes, read, write, announce, lookHead, take. -/
namespace Go.Proofs.Ytjfenjnnpikkdaa
set_option maxRecDepth 100000
open Go.RowKit
open Go.Proofs.YtjfenjnnpikkdaaW.PrintLast

section
variable {w w' : World} {base be n p : Nat} {R : HRef} {s : St} {H : HS}
theorem HRep.nP (h : HRep w base be R n s H) (hp : p < n) : ¬ machF R.bm R.vc R.vs (R.pa p) := fun hf => by
  have := h.machT _ hf
  rw [(h.proc p hp).tag] at this
  simp at this
theorem HRep.nE (h : HRep w base be R n s H) : ¬ machF R.bm R.vc R.vs be := fun hf => by
  have := h.machT _ hf
  rw [h.engT] at this
  simp at this
theorem HRep.nTag (h : HRep w base be R n s H) {k : Nat} {t : HTag} (hk : R.own k = some t) (ht : t ≠ .mach) : ¬ machF R.bm R.vc R.vs k := fun hf => by
  have := h.machT _ hf
  rw [hk] at this
  injection this with this
  exact ht this
theorem HRep.fin (h : HRep w base be R n s H) (hp : p < n) (k : Keeps (hturnF R p) w w') {ann' head' : Nat → Nat} {chain' : List Nat} {nodes' : List HNode} {steps : List Int}
    (hl : nodes'.length = H.nodes.length) (hnv : ∀ i, i < H.nodes.length → ∃ (pl : Nat) (dn : Bool), nodes'.getD i noNode = { H.nd i with place := pl, done := dn })
    {x : HProc} (bf : Int) (hM : Mach w' R.bm R.vc R.vs ⟨cellsH n ⟨nodes', chain', ann', head', upd H.procs p x⟩, steps⟩) (hX : Blk w' (R.pa p) (hprocV be p x bf (hphV (R.pa p) x.ph)) 98) (v : Value) :
    HPost w base be R n s ⟨nodes', chain', ann', head', upd H.procs p x⟩ v (.returned v) w' :=
  ⟨rfl, _, h.turn hp k ann' head' chain' nodes' steps hl hnv x bf hM hX, fun _ _ => rfl, k.mono fun q hq => by
    rcases hq with hq | rfl
    · rw [h.machT q hq]; simp
    · rw [(h.proc p hp).tag]; simp⟩
theorem same_nodes (H : HS) : ∀ i, i < H.nodes.length → ∃ (pl : Nat) (dn : Bool), H.nodes.getD i noNode = { H.nd i with place := pl, done := dn } := fun i _ => ⟨(H.nd i).place, (H.nd i).done, rfl⟩
end
theorem he_goes (w : World) (bp : Nat) (fn : Fn) (first cap : Array Value) (old : Value) (hc : w.cell? ⟨bp, 5, none⟩ = some old) (hf : w.frozen? ⟨bp, 5, none⟩ = false) :
    Calls Try.prog 78 #[.pointer (some ⟨bp, 0, none⟩), .func fn first cap] w fun e w' => e = .returned (.tuple #[.int .i64 0, .bool false]) ∧ w' = w.setCell ⟨bp, 5, none⟩ (.func fn first cap) := by
  go_enter Try.func78, Try.ntmps78
  go_wp2
  go_ret2
  exact ⟨rfl, rfl⟩
section
variable {w : World} {base be n p bm bp : Nat} {vc vs : Value} {l : List Int} {R : HRef} {s : St} {H : HS}
set_option maxRecDepth 100000 in
set_option maxHeartbeats 1600000 in
theorem he_read (p0 : w.cell? ⟨bp, 0, none⟩ = some (.pointer (some ⟨be, 0, none⟩))) (p1 : w.cell? ⟨bp, 1, none⟩ = some (.int .i64 p)) (e4 : w.cell? ⟨be, 4, none⟩ = some (.pointer (some ⟨bm, 0, none⟩)))
    (hM : Mach w bm vc vs ⟨cellsH n H, l⟩) {c : Nat} (hc : c < 2 * n + 3 * H.nodes.length) (nP : ¬ machF bm vc vs bp) (nE : ¬ machF bm vc vs be) :
    Calls Try.prog 88 #[.pointer (some ⟨bp, 0, none⟩), .int .i64 c] w fun e w' => e = .returned (.int .i64 (cval n H c)) ∧ (∃ s', Mach w' bm vc vs ⟨cellsH n H, s'⟩) ∧ Keeps (machF bm vc vs) w w' := by
  have hm := hmf
  have HM := Lib.hid hM
  clear hM
  go_enter Try.func88, Try.ntmps88
  go_wp2_with fail
  refine start_ (n := 14) (S := fun w' => w'.cell? ⟨bp, 0, none⟩ = some (.pointer (some ⟨be, 0, none⟩)) ∧ w'.cell? ⟨bp, 1, none⟩ = some (.int .i64 p) ∧ w'.cell? ⟨be, 4, none⟩ = some (.pointer (some ⟨bm, 0, none⟩))) (ds := []) #[false, false, false, false, false, false, false, false, false, false, false, false, false, false] (by kernel_rfl) rfl rfl ⟨p0, p1, e4⟩ (fun hHeld => ?_)
  refine pure_ (i := 0) (N := some 5) (v := ?_) (a' := ?_) #[true, false, false, false, false, false, false, false, false, false, false, false, false, false] rfl rfl (by kernel_rfl) (fun _ _ _ h => h) (Or.inl ⟨by rfl, ?_⟩) ?_ ?_
  rotate_left
  · intro w'
    go_simp
    with_reducible rfl
  rotate_left
  · simp only [Act.put, nA, nB, nC, i64_w, i32_w]
    rfl
  refine pure_ (i := 1) (N := some 6) (v := ?_) (a' := ?_) #[true, true, false, false, false, false, false, false, false, false, false, false, false, false] rfl rfl (by kernel_rfl) (fun _ _ _ h => h) (Or.inl ⟨by rfl, ?_⟩) ?_ ?_
  rotate_left
  · intro w'
    go_simp
    with_reducible rfl
  rotate_left
  · simp only [Act.put, nA, nB, nC, i64_w, i32_w]
    rfl
  refine pure_ (i := 2) (N := some 7) (v := ?_) (a' := ?_) #[true, true, true, false, false, false, false, false, false, false, false, false, false, false] rfl rfl (by kernel_rfl) (fun _ _ _ h => h) (Or.inl ⟨by rfl, ?_⟩) ?_ ?_
  rotate_left
  · intro w'
    go_simp
    with_reducible rfl
  rotate_left
  · simp only [Act.put, nA, nB, nC, i64_w, i32_w]
    rfl
  refine pure_ (i := 7) (N := some 12) (v := ?_) (a' := ?_) #[true, true, true, false, false, false, false, true, false, false, false, false, false, false] rfl rfl (by kernel_rfl) (fun _ _ _ h => h) (Or.inl ⟨by rfl, ?_⟩) ?_ ?_
  rotate_left
  · intro w'
    go_simp
    with_reducible rfl
  rotate_left
  · simp only [Act.put, nA, nB, nC, i64_w, i32_w]
    rfl
  refine pure_ (i := 8) (N := some 13) (v := ?_) (a' := ?_) #[true, true, true, false, false, false, false, true, true, false, false, false, false, false] rfl rfl (by kernel_rfl) (fun _ _ _ h => h) (Or.inl ⟨by rfl, ?_⟩) ?_ ?_
  rotate_left
  · intro w'
    go_simp
    with_reducible rfl
  rotate_left
  · simp only [Act.put, nA, nB, nC, i64_w, i32_w]
    rfl
  refine pure_ (i := 9) (N := some 14) (v := ?_) (a' := ?_) #[true, true, true, false, false, false, false, true, true, true, false, false, false, false] rfl rfl (by kernel_rfl) (fun _ _ _ h => h) (Or.inl ⟨by rfl, ?_⟩) ?_ ?_
  rotate_left
  · intro w'
    go_simp
    with_reducible rfl
  rotate_left
  · simp only [Act.put, nA, nB, nC, i64_w, i32_w]
    rfl
  refine pure_ (i := 11) (N := some 16) (v := ?_) (a' := ?_) #[true, true, true, false, false, false, false, true, true, true, false, true, false, false] rfl rfl (by kernel_rfl) (fun _ _ _ h => h) (Or.inl ⟨by rfl, ?_⟩) ?_ ?_
  rotate_left
  · intro w'
    go_simp
    with_reducible rfl
  rotate_left
  · simp only [Act.put, nA, nB, nC, i64_w, i32_w]
    rfl
  refine take_ (i := 3) (N := some 8) (v := ?_) (a' := ?_) #[true, true, true, true, false, false, false, true, true, true, false, true, false, false] rfl rfl (by kernel_rfl) (fun _ _ _ h => h) (Or.inl ⟨by rfl, ?_⟩) hHeld ?_ ?_
  rotate_left
  · rintro w' ⟨s0, s1, s2⟩
    go_simp
    with_reducible rfl
  rotate_left
  · simp only [Act.put, nA, nB, nC, i64_w, i32_w]
    rfl
  refine pure_ (i := 4) (N := some 9) (v := ?_) (a' := ?_) #[true, true, true, true, true, false, false, true, true, true, false, true, false, false] rfl rfl (by kernel_rfl) (fun _ _ _ h => h) (Or.inl ⟨by rfl, ?_⟩) ?_ ?_
  rotate_left
  · intro w'
    go_simp
    with_reducible rfl
  rotate_left
  · simp only [Act.put, nA, nB, nC, i64_w, i32_w]
    rfl
  refine pure_ (i := 5) (N := some 10) (v := ?_) (a' := ?_) #[true, true, true, true, true, true, false, true, true, true, false, true, false, false] rfl rfl (by kernel_rfl) (fun _ _ _ h => h) (Or.inl ⟨by rfl, ?_⟩) ?_ ?_
  rotate_left
  · intro w'
    go_simp
    with_reducible rfl
  rotate_left
  · simp only [Act.put, nA, nB, nC, i64_w, i32_w]
    rfl
  refine take_ (i := 6) (N := some 11) (v := ?_) (a' := ?_) #[true, true, true, true, true, true, true, true, true, true, false, true, false, false] rfl rfl (by kernel_rfl) (fun _ _ _ h => h) (Or.inl ⟨by rfl, ?_⟩) hHeld ?_ ?_
  rotate_left
  · rintro w' ⟨s0, s1, s2⟩
    go_simp
    with_reducible rfl
  rotate_left
  · simp only [Act.put, nA, nB, nC, i64_w, i32_w]
    rfl
  refine take_ (i := 10) (N := some 15) (v := ?_) (a' := ?_) #[true, true, true, true, true, true, true, true, true, true, true, true, false, false] rfl rfl (by kernel_rfl) (fun _ _ _ h => h) (Or.inl ⟨by rfl, ?_⟩) hHeld ?_ ?_
  rotate_left
  · rintro w' ⟨s0, s1, s2⟩
    go_simp
    with_reducible rfl
  rotate_left
  · simp only [Act.put, nA, nB, nC, i64_w, i32_w]
    rfl
  refine one_ (i := 12) (N := some 17) #[true, true, true, true, true, true, true, true, true, true, true, true, true, false] rfl rfl (by kernel_rfl) (by decide) (fun K hK => ?_)
  refine goes_ Try.func62 (by kernel_rfl) rfl #[.pointer (some ⟨bm, 0, none⟩), .int .i64 p, .int .i64 c] (by rfl) rfl rfl (by simp only [List.map_toArray, List.map_cons, List.map_nil]; rfl) ?_
  with_reducible refine (rd_h HM.out.drew hc _).mono ?_
  rintro e w3 ⟨rfl, ⟨s3, hM3⟩, hK3⟩
  refine ⟨_, rfl, ?_⟩
  try clear hHeld
  refine hK.out _ _ ⟨hK3.cellSome nP p0, hK3.cellSome nP p1, hK3.cellSome nE e4⟩ (fun hHeld => ?_)
  clear hK K
  refine norm_ (a' := ?_) ?_ ?_
  rotate_left
  · show Act.put _ (some 17) _ = _
    simp only [Act.put, nA, nB, nC, i64_w, i32_w]
    rfl
  refine pure_ (i := 13) (N := some 4) (v := ?_) (a' := ?_) #[true, true, true, true, true, true, true, true, true, true, true, true, true, true] rfl rfl (by kernel_rfl) (fun _ _ _ h => h) (Or.inl ⟨by rfl, ?_⟩) ?_ ?_
  rotate_left
  · intro w'
    go_simp
    with_reducible rfl
  rotate_left
  · simp only [Act.put, nA, nB, nC, i64_w, i32_w]
    rfl
  try clear hHeld
  refine done_ (by kernel_rfl) ?_
  go_wp2_with fail
  go_ret
  exact ⟨rfl, ⟨_, hM3⟩, (Keeps.refl _ _).drew.trans' hK3⟩
set_option maxRecDepth 100000 in
set_option maxHeartbeats 1600000 in
theorem he_write (p0 : w.cell? ⟨bp, 0, none⟩ = some (.pointer (some ⟨be, 0, none⟩))) (p1 : w.cell? ⟨bp, 1, none⟩ = some (.int .i64 p)) (e4 : w.cell? ⟨be, 4, none⟩ = some (.pointer (some ⟨bm, 0, none⟩)))
    (hM : Mach w bm vc vs ⟨cellsH n H, l⟩) (H' : HS) {c : Nat} (v : Int) (hc : c < 2 * n + 3 * H.nodes.length) (hl : H'.nodes.length = H.nodes.length) (hv : ∀ j, j < 2 * n + 3 * H.nodes.length → cval n H' j = if j = c then v else cval n H j) (nP : ¬ machF bm vc vs bp) (nE : ¬ machF bm vc vs be) :
    Calls Try.prog 77 #[.pointer (some ⟨bp, 0, none⟩), .int .i64 c, .int .i64 v] w fun e w' => e = .returned (.tuple #[]) ∧ (∃ s', Mach w' bm vc vs ⟨cellsH n H', s'⟩) ∧ Keeps (machF bm vc vs) w w' := by
  have hm := hmf
  have HM := Lib.hid hM
  have HV := Lib.hid hv
  clear hM hv
  go_enter Try.func77, Try.ntmps77
  go_wp2_with fail
  refine start_ (n := 14) (S := fun w' => w'.cell? ⟨bp, 0, none⟩ = some (.pointer (some ⟨be, 0, none⟩)) ∧ w'.cell? ⟨bp, 1, none⟩ = some (.int .i64 p) ∧ w'.cell? ⟨be, 4, none⟩ = some (.pointer (some ⟨bm, 0, none⟩))) (ds := []) #[false, false, false, false, false, false, false, false, false, false, false, false, false, false] (by kernel_rfl) rfl rfl ⟨p0, p1, e4⟩ (fun hHeld => ?_)
  refine pure_ (i := 0) (N := some 6) (v := ?_) (a' := ?_) #[true, false, false, false, false, false, false, false, false, false, false, false, false, false] rfl rfl (by kernel_rfl) (fun _ _ _ h => h) (Or.inl ⟨by rfl, ?_⟩) ?_ ?_
  rotate_left
  · intro w'
    go_simp
    with_reducible rfl
  rotate_left
  · simp only [Act.put, nA, nB, nC, i64_w, i32_w]
    rfl
  refine pure_ (i := 1) (N := some 7) (v := ?_) (a' := ?_) #[true, true, false, false, false, false, false, false, false, false, false, false, false, false] rfl rfl (by kernel_rfl) (fun _ _ _ h => h) (Or.inl ⟨by rfl, ?_⟩) ?_ ?_
  rotate_left
  · intro w'
    go_simp
    with_reducible rfl
  rotate_left
  · simp only [Act.put, nA, nB, nC, i64_w, i32_w]
    rfl
  refine pure_ (i := 2) (N := some 8) (v := ?_) (a' := ?_) #[true, true, true, false, false, false, false, false, false, false, false, false, false, false] rfl rfl (by kernel_rfl) (fun _ _ _ h => h) (Or.inl ⟨by rfl, ?_⟩) ?_ ?_
  rotate_left
  · intro w'
    go_simp
    with_reducible rfl
  rotate_left
  · simp only [Act.put, nA, nB, nC, i64_w, i32_w]
    rfl
  refine pure_ (i := 7) (N := some 13) (v := ?_) (a' := ?_) #[true, true, true, false, false, false, false, true, false, false, false, false, false, false] rfl rfl (by kernel_rfl) (fun _ _ _ h => h) (Or.inl ⟨by rfl, ?_⟩) ?_ ?_
  rotate_left
  · intro w'
    go_simp
    with_reducible rfl
  rotate_left
  · simp only [Act.put, nA, nB, nC, i64_w, i32_w]
    rfl
  refine pure_ (i := 8) (N := some 14) (v := ?_) (a' := ?_) #[true, true, true, false, false, false, false, true, true, false, false, false, false, false] rfl rfl (by kernel_rfl) (fun _ _ _ h => h) (Or.inl ⟨by rfl, ?_⟩) ?_ ?_
  rotate_left
  · intro w'
    go_simp
    with_reducible rfl
  rotate_left
  · simp only [Act.put, nA, nB, nC, i64_w, i32_w]
    rfl
  refine pure_ (i := 9) (N := some 15) (v := ?_) (a' := ?_) #[true, true, true, false, false, false, false, true, true, true, false, false, false, false] rfl rfl (by kernel_rfl) (fun _ _ _ h => h) (Or.inl ⟨by rfl, ?_⟩) ?_ ?_
  rotate_left
  · intro w'
    go_simp
    with_reducible rfl
  rotate_left
  · simp only [Act.put, nA, nB, nC, i64_w, i32_w]
    rfl
  refine pure_ (i := 11) (N := some 17) (v := ?_) (a' := ?_) #[true, true, true, false, false, false, false, true, true, true, false, true, false, false] rfl rfl (by kernel_rfl) (fun _ _ _ h => h) (Or.inl ⟨by rfl, ?_⟩) ?_ ?_
  rotate_left
  · intro w'
    go_simp
    with_reducible rfl
  rotate_left
  · simp only [Act.put, nA, nB, nC, i64_w, i32_w]
    rfl
  refine pure_ (i := 12) (N := some 18) (v := ?_) (a' := ?_) #[true, true, true, false, false, false, false, true, true, true, false, true, true, false] rfl rfl (by kernel_rfl) (fun _ _ _ h => h) (Or.inl ⟨by rfl, ?_⟩) ?_ ?_
  rotate_left
  · intro w'
    go_simp
    with_reducible rfl
  rotate_left
  · simp only [Act.put, nA, nB, nC, i64_w, i32_w]
    rfl
  refine take_ (i := 3) (N := some 9) (v := ?_) (a' := ?_) #[true, true, true, true, false, false, false, true, true, true, false, true, true, false] rfl rfl (by kernel_rfl) (fun _ _ _ h => h) (Or.inl ⟨by rfl, ?_⟩) hHeld ?_ ?_
  rotate_left
  · rintro w' ⟨s0, s1, s2⟩
    go_simp
    with_reducible rfl
  rotate_left
  · simp only [Act.put, nA, nB, nC, i64_w, i32_w]
    rfl
  refine pure_ (i := 4) (N := some 10) (v := ?_) (a' := ?_) #[true, true, true, true, true, false, false, true, true, true, false, true, true, false] rfl rfl (by kernel_rfl) (fun _ _ _ h => h) (Or.inl ⟨by rfl, ?_⟩) ?_ ?_
  rotate_left
  · intro w'
    go_simp
    with_reducible rfl
  rotate_left
  · simp only [Act.put, nA, nB, nC, i64_w, i32_w]
    rfl
  refine pure_ (i := 5) (N := some 11) (v := ?_) (a' := ?_) #[true, true, true, true, true, true, false, true, true, true, false, true, true, false] rfl rfl (by kernel_rfl) (fun _ _ _ h => h) (Or.inl ⟨by rfl, ?_⟩) ?_ ?_
  rotate_left
  · intro w'
    go_simp
    with_reducible rfl
  rotate_left
  · simp only [Act.put, nA, nB, nC, i64_w, i32_w]
    rfl
  refine take_ (i := 6) (N := some 12) (v := ?_) (a' := ?_) #[true, true, true, true, true, true, true, true, true, true, false, true, true, false] rfl rfl (by kernel_rfl) (fun _ _ _ h => h) (Or.inl ⟨by rfl, ?_⟩) hHeld ?_ ?_
  rotate_left
  · rintro w' ⟨s0, s1, s2⟩
    go_simp
    with_reducible rfl
  rotate_left
  · simp only [Act.put, nA, nB, nC, i64_w, i32_w]
    rfl
  refine take_ (i := 10) (N := some 16) (v := ?_) (a' := ?_) #[true, true, true, true, true, true, true, true, true, true, true, true, true, false] rfl rfl (by kernel_rfl) (fun _ _ _ h => h) (Or.inl ⟨by rfl, ?_⟩) hHeld ?_ ?_
  rotate_left
  · rintro w' ⟨s0, s1, s2⟩
    go_simp
    with_reducible rfl
  rotate_left
  · simp only [Act.put, nA, nB, nC, i64_w, i32_w]
    rfl
  refine one_ (i := 13) (N := some 19) #[true, true, true, true, true, true, true, true, true, true, true, true, true, true] rfl rfl (by kernel_rfl) (by decide) (fun K hK => ?_)
  refine goes_ Try.func53 (by kernel_rfl) rfl #[.pointer (some ⟨bm, 0, none⟩), .int .i64 p, .int .i64 c, .int .i64 v] (by rfl) rfl rfl (by simp only [List.map_toArray, List.map_cons, List.map_nil]; rfl) ?_
  with_reducible refine (wr_h HM.out.drew H' hc _ _ hl HV.out).mono ?_
  rintro e w3 ⟨rfl, ⟨s3, hM3⟩, hK3⟩
  refine ⟨_, rfl, ?_⟩
  try clear hHeld
  refine hK.out _ _ ⟨hK3.cellSome nP p0, hK3.cellSome nP p1, hK3.cellSome nE e4⟩ (fun hHeld => ?_)
  clear hK K
  refine norm_ (a' := ?_) ?_ ?_
  rotate_left
  · show Act.put _ (some 19) _ = _
    simp only [Act.put, nA, nB, nC, i64_w, i32_w]
    rfl
  try clear hHeld
  refine done_ (by kernel_rfl) ?_
  go_wp2_with fail
  go_end0
  exact ⟨rfl, ⟨_, hM3⟩, (Keeps.refl _ _).drew.trans' hK3⟩
end

end Go.Proofs.Ytjfenjnnpikkdaa
/- Package herlihy: announce, lookHead, take. -/
namespace Go.Proofs.Ytjfenjnnpikkdaa
set_option maxRecDepth 100000
open Go.RowKit
open Go.Proofs.YtjfenjnnpikkdaaW.PrintLast

set_option maxRecDepth 100000 in
set_option maxHeartbeats 1600000 in
theorem he_announce {w : World} {base be n p : Nat} {R : HRef} {s : St} {H : HS} (h : HRep w base be R n s H) (hp : p < n) (hph : (H.procs p).ph = .announce) :
    Calls Try.prog 57 #[.pointer (some ⟨R.pa p, 0, none⟩)] w (HPost w base be R n s (H.step n p).1 (.tuple #[.int .i64 0, .bool false])) := by
  have e0 : (H.step n p).1 = ⟨H.nodes, H.chain, (upd H.ann p (H.procs p).node), H.head, upd H.procs p { H.procs p with q := 0, turn := 0, ph := .lookHead }⟩ := by unfold HS.step; rw [hph]; rfl
  rw [e0]
  have hx := h.proc p hp
  have p0 : w.cell? ⟨R.pa p, 0, none⟩ = some (.pointer (some ⟨be, 0, none⟩)) := hx.blk.cell 0
  have p1 : w.cell? ⟨R.pa p, 1, none⟩ = some (.int .i64 p) := hx.blk.cell 1
  have e4 : w.cell? ⟨be, 4, none⟩ = some (.pointer (some ⟨R.bm, 0, none⟩)) := h.eng.cell 4
  have e5 : w.cell? ⟨be, 5, none⟩ = some (.int .i64 0) := h.eng.cell 5
  have e6 : w.cell? ⟨be, 6, none⟩ = some (.int .i64 n) := h.eng.cell 6
  have nP := h.nP hp
  have nE := h.nE
  have hsm := h.small
  have hm := hmf
  have p2 : w.cell? ⟨R.pa p, 2, none⟩ = some (.int .i64 (H.procs p).node) := hx.blk.cell 2
  have q1 : IntKind.i64.wrap (p : Int) = p := IntWalk.i64_in _ (by omega)
  have HW := Lib.hid (he_write (w := w.drew) (H := H) p0 p1 e4 h.mach.drew { H with ann := upd H.ann p (H.procs p).node } (c := p) (H.procs p).node (by omega) rfl (fun j hj => cval_ann_upd hp _ j) nP nE)
  go_enter Try.func57, Try.ntmps57
  go_wp2_with fail
  refine start_ (n := 18) (S := fun w' => w'.cell? ⟨R.pa p, 0, none⟩ = some (.pointer (some ⟨be, 0, none⟩)) ∧ w'.cell? ⟨R.pa p, 1, none⟩ = some (.int .i64 p) ∧ w'.cell? ⟨R.pa p, 2, none⟩ = some (.int .i64 (H.procs p).node) ∧ w'.cell? ⟨be, 5, none⟩ = some (.int .i64 0)) (ds := []) #[false, false, false, false, false, false, false, false, false, false, false, false, false, false, false, false, false, false] (by kernel_rfl) rfl rfl ⟨p0, p1, p2, e5⟩ (fun hHeld => ?_)
  refine pure_ (i := 0) (N := some 4) (v := ?_) (a' := ?_) #[true, false, false, false, false, false, false, false, false, false, false, false, false, false, false, false, false, false] rfl rfl (by kernel_rfl) (fun _ _ _ h => h) (Or.inl ⟨by rfl, ?_⟩) ?_ ?_
  rotate_left
  · intro w'
    go_simp
    with_reducible rfl
  rotate_left
  · simp only [Act.put, nA, nB, nC, i64_w, i32_w]
    rfl
  refine pure_ (i := 1) (N := some 5) (v := ?_) (a' := ?_) #[true, true, false, false, false, false, false, false, false, false, false, false, false, false, false, false, false, false] rfl rfl (by kernel_rfl) (fun _ _ _ h => h) (Or.inl ⟨by rfl, ?_⟩) ?_ ?_
  rotate_left
  · intro w'
    go_simp
    with_reducible rfl
  rotate_left
  · simp only [Act.put, nA, nB, nC, i64_w, i32_w]
    rfl
  refine pure_ (i := 2) (N := some 6) (v := ?_) (a' := ?_) #[true, true, true, false, false, false, false, false, false, false, false, false, false, false, false, false, false, false] rfl rfl (by kernel_rfl) (fun _ _ _ h => h) (Or.inl ⟨by rfl, ?_⟩) ?_ ?_
  rotate_left
  · intro w'
    go_simp
    with_reducible rfl
  rotate_left
  · simp only [Act.put, nA, nB, nC, i64_w, i32_w]
    rfl
  refine pure_ (i := 3) (N := some 7) (v := ?_) (a' := ?_) #[true, true, true, true, false, false, false, false, false, false, false, false, false, false, false, false, false, false] rfl rfl (by kernel_rfl) (fun _ _ _ h => h) (Or.inl ⟨by rfl, ?_⟩) ?_ ?_
  rotate_left
  · intro w'
    go_simp
    with_reducible rfl
  rotate_left
  · simp only [Act.put, nA, nB, nC, i64_w, i32_w]
    rfl
  refine pure_ (i := 8) (N := some 12) (v := ?_) (a' := ?_) #[true, true, true, true, false, false, false, false, true, false, false, false, false, false, false, false, false, false] rfl rfl (by kernel_rfl) (fun _ _ _ h => h) (Or.inl ⟨by rfl, ?_⟩) ?_ ?_
  rotate_left
  · intro w'
    go_simp
    with_reducible rfl
  rotate_left
  · simp only [Act.put, nA, nB, nC, i64_w, i32_w]
    rfl
  refine pure_ (i := 9) (N := some 13) (v := ?_) (a' := ?_) #[true, true, true, true, false, false, false, false, true, true, false, false, false, false, false, false, false, false] rfl rfl (by kernel_rfl) (fun _ _ _ h => h) (Or.inl ⟨by rfl, ?_⟩) ?_ ?_
  rotate_left
  · intro w'
    go_simp
    with_reducible rfl
  rotate_left
  · simp only [Act.put, nA, nB, nC, i64_w, i32_w]
    rfl
  refine pure_ (i := 10) (N := some 14) (v := ?_) (a' := ?_) #[true, true, true, true, false, false, false, false, true, true, true, false, false, false, false, false, false, false] rfl rfl (by kernel_rfl) (fun _ _ _ h => h) (Or.inl ⟨by rfl, ?_⟩) ?_ ?_
  rotate_left
  · intro w'
    go_simp
    with_reducible rfl
  rotate_left
  · simp only [Act.put, nA, nB, nC, i64_w, i32_w]
    rfl
  refine pure_ (i := 13) (N := some 17) (v := ?_) (a' := ?_) #[true, true, true, true, false, false, false, false, true, true, true, false, false, true, false, false, false, false] rfl rfl (by kernel_rfl) (fun _ _ _ h => h) (Or.inl ⟨by rfl, ?_⟩) ?_ ?_
  rotate_left
  · intro w'
    go_simp
    with_reducible rfl
  rotate_left
  · simp only [Act.put, nA, nB, nC, i64_w, i32_w]
    rfl
  refine pure_ (i := 14) (N := some 18) (v := ?_) (a' := ?_) #[true, true, true, true, false, false, false, false, true, true, true, false, false, true, true, false, false, false] rfl rfl (by kernel_rfl) (fun _ _ _ h => h) (Or.inl ⟨by rfl, ?_⟩) ?_ ?_
  rotate_left
  · intro w'
    go_simp
    with_reducible rfl
  rotate_left
  · simp only [Act.put, nA, nB, nC, i64_w, i32_w]
    rfl
  refine pure_ (i := 15) (N := some 19) (v := ?_) (a' := ?_) #[true, true, true, true, false, false, false, false, true, true, true, false, false, true, true, true, false, false] rfl rfl (by kernel_rfl) (fun _ _ _ h => h) (Or.inl ⟨by rfl, ?_⟩) ?_ ?_
  rotate_left
  · intro w'
    go_simp
    with_reducible rfl
  rotate_left
  · simp only [Act.put, nA, nB, nC, i64_w, i32_w]
    rfl
  refine take_ (i := 4) (N := some 8) (v := ?_) (a' := ?_) #[true, true, true, true, true, false, false, false, true, true, true, false, false, true, true, true, false, false] rfl rfl (by kernel_rfl) (fun _ _ _ h => h) (Or.inl ⟨by rfl, ?_⟩) hHeld ?_ ?_
  rotate_left
  · rintro w' ⟨s0, s1, s2, s3⟩
    go_simp
    with_reducible rfl
  rotate_left
  · simp only [Act.put, nA, nB, nC, i64_w, i32_w]
    rfl
  refine pure_ (i := 5) (N := some 9) (v := ?_) (a' := ?_) #[true, true, true, true, true, true, false, false, true, true, true, false, false, true, true, true, false, false] rfl rfl (by kernel_rfl) (fun _ _ _ h => h) (Or.inl ⟨by rfl, ?_⟩) ?_ ?_
  rotate_left
  · intro w'
    go_simp
    with_reducible rfl
  rotate_left
  · simp only [Act.put, nA, nB, nC, i64_w, i32_w]
    rfl
  refine pure_ (i := 6) (N := some 10) (v := ?_) (a' := ?_) #[true, true, true, true, true, true, true, false, true, true, true, false, false, true, true, true, false, false] rfl rfl (by kernel_rfl) (fun _ _ _ h => h) (Or.inl ⟨by rfl, ?_⟩) ?_ ?_
  rotate_left
  · intro w'
    go_simp
    with_reducible rfl
  rotate_left
  · simp only [Act.put, nA, nB, nC, i64_w, i32_w]
    rfl
  refine take_ (i := 7) (N := some 11) (v := ?_) (a' := ?_) #[true, true, true, true, true, true, true, true, true, true, true, false, false, true, true, true, false, false] rfl rfl (by kernel_rfl) (fun _ _ _ h => h) (Or.inl ⟨by rfl, ?_⟩) hHeld ?_ ?_
  rotate_left
  · rintro w' ⟨s0, s1, s2, s3⟩
    go_simp
    with_reducible rfl
  rotate_left
  · simp only [Act.put, nA, nB, nC, i64_w, i32_w]
    rfl
  refine take_ (i := 11) (N := some 15) (v := ?_) (a' := ?_) #[true, true, true, true, true, true, true, true, true, true, true, true, false, true, true, true, false, false] rfl rfl (by kernel_rfl) (fun _ _ _ h => h) (Or.inl ⟨by rfl, ?_⟩) hHeld ?_ ?_
  rotate_left
  · rintro w' ⟨s0, s1, s2, s3⟩
    go_simp
    with_reducible rfl
  rotate_left
  · simp only [Act.put, nA, nB, nC, i64_w, i32_w]
    rfl
  refine pure_ (i := 12) (N := some 16) (v := ?_) (a' := ?_) #[true, true, true, true, true, true, true, true, true, true, true, true, true, true, true, true, false, false] rfl rfl (by kernel_rfl) (fun _ _ _ h => h) (Or.inl ⟨by rfl, ?_⟩) ?_ ?_
  rotate_left
  · intro w'
    go_simp
    with_reducible rfl
  rotate_left
  · simp only [Act.put, nA, nB, nC, i64_w, i32_w]
    rfl
  refine take_ (i := 16) (N := some 20) (v := ?_) (a' := ?_) #[true, true, true, true, true, true, true, true, true, true, true, true, true, true, true, true, true, false] rfl rfl (by kernel_rfl) (fun _ _ _ h => h) (Or.inl ⟨by rfl, ?_⟩) hHeld ?_ ?_
  rotate_left
  · rintro w' ⟨s0, s1, s2, s3⟩
    go_simp
    with_reducible rfl
  rotate_left
  · simp only [Act.put, nA, nB, nC, i64_w, i32_w]
    rfl
  refine one_ (i := 17) (N := some 21) #[true, true, true, true, true, true, true, true, true, true, true, true, true, true, true, true, true, true] rfl rfl (by kernel_rfl) (by decide) (fun K hK => ?_)
  refine goes_ Try.func77 (by kernel_rfl) rfl #[.pointer (some ⟨R.pa p, 0, none⟩), .int .i64 p, .int .i64 (H.procs p).node] (by rfl) rfl rfl (by simp only [List.map_toArray, List.map_cons, List.map_nil]; rfl) ?_
  with_reducible refine (HW.out).mono ?_
  rintro e w3 ⟨rfl, ⟨s3, hM3⟩, hK3⟩
  refine ⟨_, rfl, ?_⟩
  try clear hHeld
  refine hK.out _ _ ⟨hK3.cellSome nP p0, hK3.cellSome nP p1, hK3.cellSome nP p2, hK3.cellSome nE e5⟩ (fun hHeld => ?_)
  clear hK K
  refine norm_ (a' := ?_) ?_ ?_
  rotate_left
  · show Act.put _ (some 21) _ = _
    simp only [Act.put, nA, nB, nC, i64_w, i32_w]
    rfl
  try clear hHeld
  refine done_ (by kernel_rfl) ?_
  clear p0 p1 p2 e4 e5 e6
  have hB3 := hx.blk.drew.keeps hK3 nP
  have p6 : w3.cell? ⟨R.pa p, 6, none⟩ = some (.int .i64 (H.procs p).q) := hB3.cell 6
  have f6 := hB3.frozen 6
  have hB4 := hB3.set 6 (.int .i64 0)
  have p10 : (w3.setCell ⟨R.pa p, 6, none⟩ (.int .i64 0)).cell? ⟨R.pa p, 10, none⟩ = some (.int .i64 (H.procs p).turn) := hB4.cell 10
  have f10 := hB4.frozen 10
  have hB5 := hB4.set 10 (.int .i64 0)
  have c5 := hB5.cell 5
  have f5 := hB5.frozen 5
  have HC := Lib.hid c5
  clear c5
  go_wp2_with (go_at_call 78; refine (he_goes _ _ _ _ _ _ HC.out f5).mono ?_; rintro e w5 ⟨rfl, rfl⟩)
  go_ret2
  refine h.fin hp (steps := s3) (((((Keeps.refl _ _).drew.trans' (hK3.mono fun k hk => .inl hk)).set _ 6 (.inl (.inr rfl)) _).set _ 10 (.inl (.inr rfl)) _).set _ 5 (.inl (.inr rfl)) _) rfl (same_nodes H) (R.bef p) ?_ ?_ _
  · exact ((hM3.other nP _).other nP _).other nP _
  · exact hB5.set 5 _

set_option maxRecDepth 100000 in
set_option maxHeartbeats 1600000 in
theorem he_lookHead {w : World} {base be n p : Nat} {R : HRef} {s : St} {H : HS} (h : HRep w base be R n s H) (hp : p < n) (hph : (H.procs p).ph = .lookHead) (hq : (H.procs p).q < n) :
    Calls Try.prog 79 #[.pointer (some ⟨R.pa p, 0, none⟩)] w (HPost w base be R n s (H.step n p).1 (.tuple #[.int .i64 0, .bool false])) := by
  have e0 : (H.step n p).1 = ⟨H.nodes, H.chain, H.ann, H.head, upd H.procs p { H.procs p with other := H.head (H.procs p).q, ph := .lookPlace }⟩ := by unfold HS.step; rw [hph]; rfl
  rw [e0]
  have hx := h.proc p hp
  have p0 : w.cell? ⟨R.pa p, 0, none⟩ = some (.pointer (some ⟨be, 0, none⟩)) := hx.blk.cell 0
  have p1 : w.cell? ⟨R.pa p, 1, none⟩ = some (.int .i64 p) := hx.blk.cell 1
  have e4 : w.cell? ⟨be, 4, none⟩ = some (.pointer (some ⟨R.bm, 0, none⟩)) := h.eng.cell 4
  have e5 : w.cell? ⟨be, 5, none⟩ = some (.int .i64 0) := h.eng.cell 5
  have e6 : w.cell? ⟨be, 6, none⟩ = some (.int .i64 n) := h.eng.cell 6
  have nP := h.nP hp
  have nE := h.nE
  have hsm := h.small
  have hm := hmf
  have p6 : w.cell? ⟨R.pa p, 6, none⟩ = some (.int .i64 (H.procs p).q) := hx.blk.cell 6
  have q1 : IntKind.i64.wrap ((n : Int) + (H.procs p).q) = (n : Int) + (H.procs p).q := IntWalk.i64_in _ (by omega)
  have HW := Lib.hid (he_read (w := w.drew) (H := H) p0 p1 e4 h.mach.drew (c := n + (H.procs p).q) (by omega) nP nE)
  rw [cval_head hq] at HW
  go_enter Try.func79, Try.ntmps79
  go_wp2_with fail
  refine start_ (n := 18) (S := fun w' => w'.cell? ⟨R.pa p, 0, none⟩ = some (.pointer (some ⟨be, 0, none⟩)) ∧ w'.cell? ⟨R.pa p, 1, none⟩ = some (.int .i64 p) ∧ w'.cell? ⟨R.pa p, 6, none⟩ = some (.int .i64 (H.procs p).q) ∧ w'.cell? ⟨be, 6, none⟩ = some (.int .i64 n)) (ds := [17]) #[false, false, false, false, false, false, false, false, false, false, false, false, false, false, false, false, false, false] (by kernel_rfl) rfl rfl ⟨p0, p1, p6, e6⟩ (fun hHeld => ?_)
  refine pure_ (i := 0) (N := some 4) (v := ?_) (a' := ?_) #[true, false, false, false, false, false, false, false, false, false, false, false, false, false, false, false, false, false] rfl rfl (by kernel_rfl) (fun _ _ _ h => h) (Or.inl ⟨by rfl, ?_⟩) ?_ ?_
  rotate_left
  · intro w'
    go_simp
    with_reducible rfl
  rotate_left
  · simp only [Act.put, nA, nB, nC, i64_w, i32_w]
    rfl
  refine pure_ (i := 1) (N := some 5) (v := ?_) (a' := ?_) #[true, true, false, false, false, false, false, false, false, false, false, false, false, false, false, false, false, false] rfl rfl (by kernel_rfl) (fun _ _ _ h => h) (Or.inl ⟨by rfl, ?_⟩) ?_ ?_
  rotate_left
  · intro w'
    go_simp
    with_reducible rfl
  rotate_left
  · simp only [Act.put, nA, nB, nC, i64_w, i32_w]
    rfl
  refine pure_ (i := 2) (N := some 6) (v := ?_) (a' := ?_) #[true, true, true, false, false, false, false, false, false, false, false, false, false, false, false, false, false, false] rfl rfl (by kernel_rfl) (fun _ _ _ h => h) (Or.inl ⟨by rfl, ?_⟩) ?_ ?_
  rotate_left
  · intro w'
    go_simp
    with_reducible rfl
  rotate_left
  · simp only [Act.put, nA, nB, nC, i64_w, i32_w]
    rfl
  refine pure_ (i := 3) (N := some 7) (v := ?_) (a' := ?_) #[true, true, true, true, false, false, false, false, false, false, false, false, false, false, false, false, false, false] rfl rfl (by kernel_rfl) (fun _ _ _ h => h) (Or.inl ⟨by rfl, ?_⟩) ?_ ?_
  rotate_left
  · intro w'
    go_simp
    with_reducible rfl
  rotate_left
  · simp only [Act.put, nA, nB, nC, i64_w, i32_w]
    rfl
  refine pure_ (i := 4) (N := some 8) (v := ?_) (a' := ?_) #[true, true, true, true, true, false, false, false, false, false, false, false, false, false, false, false, false, false] rfl rfl (by kernel_rfl) (fun _ _ _ h => h) (Or.inl ⟨by rfl, ?_⟩) ?_ ?_
  rotate_left
  · intro w'
    go_simp
    with_reducible rfl
  rotate_left
  · simp only [Act.put, nA, nB, nC, i64_w, i32_w]
    rfl
  refine pure_ (i := 9) (N := some 13) (v := ?_) (a' := ?_) #[true, true, true, true, true, false, false, false, false, true, false, false, false, false, false, false, false, false] rfl rfl (by kernel_rfl) (fun _ _ _ h => h) (Or.inl ⟨by rfl, ?_⟩) ?_ ?_
  rotate_left
  · intro w'
    go_simp
    with_reducible rfl
  rotate_left
  · simp only [Act.put, nA, nB, nC, i64_w, i32_w]
    rfl
  refine pure_ (i := 10) (N := some 14) (v := ?_) (a' := ?_) #[true, true, true, true, true, false, false, false, false, true, true, false, false, false, false, false, false, false] rfl rfl (by kernel_rfl) (fun _ _ _ h => h) (Or.inl ⟨by rfl, ?_⟩) ?_ ?_
  rotate_left
  · intro w'
    go_simp
    with_reducible rfl
  rotate_left
  · simp only [Act.put, nA, nB, nC, i64_w, i32_w]
    rfl
  refine pure_ (i := 11) (N := some 15) (v := ?_) (a' := ?_) #[true, true, true, true, true, false, false, false, false, true, true, true, false, false, false, false, false, false] rfl rfl (by kernel_rfl) (fun _ _ _ h => h) (Or.inl ⟨by rfl, ?_⟩) ?_ ?_
  rotate_left
  · intro w'
    go_simp
    with_reducible rfl
  rotate_left
  · simp only [Act.put, nA, nB, nC, i64_w, i32_w]
    rfl
  refine take_ (i := 5) (N := some 9) (v := ?_) (a' := ?_) #[true, true, true, true, true, true, false, false, false, true, true, true, false, false, false, false, false, false] rfl rfl (by kernel_rfl) (fun _ _ _ h => h) (Or.inl ⟨by rfl, ?_⟩) hHeld ?_ ?_
  rotate_left
  · rintro w' ⟨s0, s1, s2, s3⟩
    go_simp
    with_reducible rfl
  rotate_left
  · simp only [Act.put, nA, nB, nC, i64_w, i32_w]
    rfl
  refine pure_ (i := 6) (N := some 10) (v := ?_) (a' := ?_) #[true, true, true, true, true, true, true, false, false, true, true, true, false, false, false, false, false, false] rfl rfl (by kernel_rfl) (fun _ _ _ h => h) (Or.inl ⟨by rfl, ?_⟩) ?_ ?_
  rotate_left
  · intro w'
    go_simp
    with_reducible rfl
  rotate_left
  · simp only [Act.put, nA, nB, nC, i64_w, i32_w]
    rfl
  refine pure_ (i := 7) (N := some 11) (v := ?_) (a' := ?_) #[true, true, true, true, true, true, true, true, false, true, true, true, false, false, false, false, false, false] rfl rfl (by kernel_rfl) (fun _ _ _ h => h) (Or.inl ⟨by rfl, ?_⟩) ?_ ?_
  rotate_left
  · intro w'
    go_simp
    with_reducible rfl
  rotate_left
  · simp only [Act.put, nA, nB, nC, i64_w, i32_w]
    rfl
  refine take_ (i := 8) (N := some 12) (v := ?_) (a' := ?_) #[true, true, true, true, true, true, true, true, true, true, true, true, false, false, false, false, false, false] rfl rfl (by kernel_rfl) (fun _ _ _ h => h) (Or.inl ⟨by rfl, ?_⟩) hHeld ?_ ?_
  rotate_left
  · rintro w' ⟨s0, s1, s2, s3⟩
    go_simp
    with_reducible rfl
  rotate_left
  · simp only [Act.put, nA, nB, nC, i64_w, i32_w]
    rfl
  refine take_ (i := 12) (N := some 16) (v := ?_) (a' := ?_) #[true, true, true, true, true, true, true, true, true, true, true, true, true, false, false, false, false, false] rfl rfl (by kernel_rfl) (fun _ _ _ h => h) (Or.inl ⟨by rfl, ?_⟩) hHeld ?_ ?_
  rotate_left
  · rintro w' ⟨s0, s1, s2, s3⟩
    go_simp
    with_reducible rfl
  rotate_left
  · simp only [Act.put, nA, nB, nC, i64_w, i32_w]
    rfl
  refine pure_ (i := 13) (N := some 17) (v := ?_) (a' := ?_) #[true, true, true, true, true, true, true, true, true, true, true, true, true, true, false, false, false, false] rfl rfl (by kernel_rfl) (fun _ _ _ h => h) (Or.inl ⟨by rfl, ?_⟩) ?_ ?_
  rotate_left
  · intro w'
    go_simp
    with_reducible rfl
  rotate_left
  · simp only [Act.put, nA, nB, nC, i64_w, i32_w]
    rfl
  refine one_ (i := 14) (N := some 18) #[true, true, true, true, true, true, true, true, true, true, true, true, true, true, true, false, false, false] rfl rfl (by kernel_rfl) (by decide) (fun K hK => ?_)
  refine goes_ Try.func88 (by kernel_rfl) rfl #[.pointer (some ⟨R.pa p, 0, none⟩), .int .i64 (n + (H.procs p).q : Nat)] (by rfl) rfl rfl (by simp only [List.map_toArray, List.map_cons, List.map_nil]; rfl) ?_
  with_reducible refine (HW.out).mono ?_
  rintro e w3 ⟨rfl, ⟨s3, hM3⟩, hK3⟩
  refine ⟨_, rfl, ?_⟩
  have hB3 := hx.blk.drew.keeps hK3 nP
  have p7 : w3.cell? ⟨R.pa p, 7, none⟩ = some (.int .i64 (H.procs p).other) := hB3.cell 7
  have f7 := hB3.frozen 7
  try clear hHeld
  refine hK.out _ _ ⟨hK3.cellSome nP p0, hK3.cellSome nP p1, hK3.cellSome nP p6, hK3.cellSome nE e6⟩ (fun hHeld => ?_)
  clear hK K
  refine norm_ (a' := ?_) ?_ ?_
  rotate_left
  · show Act.put _ (some 18) _ = _
    simp only [Act.put, nA, nB, nC, i64_w, i32_w]
    rfl
  refine pure_ (i := 15) (N := some 19) (v := ?_) (a' := ?_) #[true, true, true, true, true, true, true, true, true, true, true, true, true, true, true, true, false, false] rfl rfl (by kernel_rfl) (fun _ _ _ h => h) (Or.inl ⟨by rfl, ?_⟩) ?_ ?_
  rotate_left
  · intro w'
    go_simp
    with_reducible rfl
  rotate_left
  · simp only [Act.put, nA, nB, nC, i64_w, i32_w]
    rfl
  refine pure_ (i := 16) (N := some 20) (v := ?_) (a' := ?_) #[true, true, true, true, true, true, true, true, true, true, true, true, true, true, true, true, true, false] rfl rfl (by kernel_rfl) (fun _ _ _ h => h) (Or.inl ⟨by rfl, ?_⟩) ?_ ?_
  rotate_left
  · intro w'
    go_simp
    with_reducible rfl
  rotate_left
  · simp only [Act.put, nA, nB, nC, i64_w, i32_w]
    rfl
  refine last_ (i := 17) (N := none) #[true, true, true, true, true, true, true, true, true, true, true, true, true, true, true, true, true, true] rfl rfl (by kernel_rfl) (by decide) (fun K hK => ?_)
  refine skip_ (w1 := ?_) (by rfl) rfl ?_ ?_
  rotate_left
  · go_simp
    rfl
  try clear hHeld
  refine hK.out _ _ ?_
  clear hK K
  try clear hHeld
  refine done_ (by kernel_rfl) ?_
  clear p0 p1 p6 e4 e5 e6 p7
  have hB4 := hB3.set 7 (.int .i64 (H.head (H.procs p).q))
  have c5 := hB4.cell 5
  have f5 := hB4.frozen 5
  have HC := Lib.hid c5
  clear c5
  go_wp2_with (go_at_call 78; refine (he_goes _ _ _ _ _ _ HC.out f5).mono ?_; rintro e w5 ⟨rfl, rfl⟩)
  go_ret2
  refine h.fin hp (steps := s3) ((((Keeps.refl _ _).drew.trans' (hK3.mono fun k hk => .inl hk)).set _ 7 (.inl (.inr rfl)) _).set _ 5 (.inl (.inr rfl)) _) rfl (same_nodes H) (R.bef p) ?_ ?_ _
  · exact (hM3.other nP _).other nP _
  · exact hB4.set 5 _

set_option maxRecDepth 100000 in
set_option maxHeartbeats 1600000 in
theorem he_take {w : World} {base be n p : Nat} {R : HRef} {s : St} {H : HS} (h : HRep w base be R n s H) (hp : p < n) (hph : (H.procs p).ph = .take) :
    Calls Try.prog 92 #[.pointer (some ⟨R.pa p, 0, none⟩)] w (HPost w base be R n s (H.step n p).1 (.tuple #[.int .i64 0, .bool false])) := by
  have e0 : (H.step n p).1 = ⟨H.nodes, H.chain, H.ann, (upd H.head p (H.procs p).at_), upd H.procs p { H.procs p with ph := .ask }⟩ := by unfold HS.step; rw [hph]; rfl
  rw [e0]
  have hx := h.proc p hp
  have p0 : w.cell? ⟨R.pa p, 0, none⟩ = some (.pointer (some ⟨be, 0, none⟩)) := hx.blk.cell 0
  have p1 : w.cell? ⟨R.pa p, 1, none⟩ = some (.int .i64 p) := hx.blk.cell 1
  have e4 : w.cell? ⟨be, 4, none⟩ = some (.pointer (some ⟨R.bm, 0, none⟩)) := h.eng.cell 4
  have e5 : w.cell? ⟨be, 5, none⟩ = some (.int .i64 0) := h.eng.cell 5
  have e6 : w.cell? ⟨be, 6, none⟩ = some (.int .i64 n) := h.eng.cell 6
  have nP := h.nP hp
  have nE := h.nE
  have hsm := h.small
  have hm := hmf
  have p9 : w.cell? ⟨R.pa p, 9, none⟩ = some (.int .i64 (H.procs p).at_) := hx.blk.cell 9
  have q1 : IntKind.i64.wrap ((n : Int) + p) = (n : Int) + p := IntWalk.i64_in _ (by omega)
  have HW := Lib.hid (he_write (w := w.drew) (H := H) p0 p1 e4 h.mach.drew { H with head := upd H.head p (H.procs p).at_ } (c := n + p) (H.procs p).at_ (by omega) rfl (fun j hj => cval_head_upd hp _ j) nP nE)
  go_enter Try.func92, Try.ntmps92
  go_wp2_with fail
  refine start_ (n := 18) (S := fun w' => w'.cell? ⟨R.pa p, 0, none⟩ = some (.pointer (some ⟨be, 0, none⟩)) ∧ w'.cell? ⟨R.pa p, 1, none⟩ = some (.int .i64 p) ∧ w'.cell? ⟨R.pa p, 9, none⟩ = some (.int .i64 (H.procs p).at_) ∧ w'.cell? ⟨be, 6, none⟩ = some (.int .i64 n)) (ds := []) #[false, false, false, false, false, false, false, false, false, false, false, false, false, false, false, false, false, false] (by kernel_rfl) rfl rfl ⟨p0, p1, p9, e6⟩ (fun hHeld => ?_)
  refine pure_ (i := 0) (N := some 4) (v := ?_) (a' := ?_) #[true, false, false, false, false, false, false, false, false, false, false, false, false, false, false, false, false, false] rfl rfl (by kernel_rfl) (fun _ _ _ h => h) (Or.inl ⟨by rfl, ?_⟩) ?_ ?_
  rotate_left
  · intro w'
    go_simp
    with_reducible rfl
  rotate_left
  · simp only [Act.put, nA, nB, nC, i64_w, i32_w]
    rfl
  refine pure_ (i := 1) (N := some 5) (v := ?_) (a' := ?_) #[true, true, false, false, false, false, false, false, false, false, false, false, false, false, false, false, false, false] rfl rfl (by kernel_rfl) (fun _ _ _ h => h) (Or.inl ⟨by rfl, ?_⟩) ?_ ?_
  rotate_left
  · intro w'
    go_simp
    with_reducible rfl
  rotate_left
  · simp only [Act.put, nA, nB, nC, i64_w, i32_w]
    rfl
  refine pure_ (i := 2) (N := some 6) (v := ?_) (a' := ?_) #[true, true, true, false, false, false, false, false, false, false, false, false, false, false, false, false, false, false] rfl rfl (by kernel_rfl) (fun _ _ _ h => h) (Or.inl ⟨by rfl, ?_⟩) ?_ ?_
  rotate_left
  · intro w'
    go_simp
    with_reducible rfl
  rotate_left
  · simp only [Act.put, nA, nB, nC, i64_w, i32_w]
    rfl
  refine pure_ (i := 3) (N := some 7) (v := ?_) (a' := ?_) #[true, true, true, true, false, false, false, false, false, false, false, false, false, false, false, false, false, false] rfl rfl (by kernel_rfl) (fun _ _ _ h => h) (Or.inl ⟨by rfl, ?_⟩) ?_ ?_
  rotate_left
  · intro w'
    go_simp
    with_reducible rfl
  rotate_left
  · simp only [Act.put, nA, nB, nC, i64_w, i32_w]
    rfl
  refine pure_ (i := 8) (N := some 12) (v := ?_) (a' := ?_) #[true, true, true, true, false, false, false, false, true, false, false, false, false, false, false, false, false, false] rfl rfl (by kernel_rfl) (fun _ _ _ h => h) (Or.inl ⟨by rfl, ?_⟩) ?_ ?_
  rotate_left
  · intro w'
    go_simp
    with_reducible rfl
  rotate_left
  · simp only [Act.put, nA, nB, nC, i64_w, i32_w]
    rfl
  refine pure_ (i := 9) (N := some 13) (v := ?_) (a' := ?_) #[true, true, true, true, false, false, false, false, true, true, false, false, false, false, false, false, false, false] rfl rfl (by kernel_rfl) (fun _ _ _ h => h) (Or.inl ⟨by rfl, ?_⟩) ?_ ?_
  rotate_left
  · intro w'
    go_simp
    with_reducible rfl
  rotate_left
  · simp only [Act.put, nA, nB, nC, i64_w, i32_w]
    rfl
  refine pure_ (i := 10) (N := some 14) (v := ?_) (a' := ?_) #[true, true, true, true, false, false, false, false, true, true, true, false, false, false, false, false, false, false] rfl rfl (by kernel_rfl) (fun _ _ _ h => h) (Or.inl ⟨by rfl, ?_⟩) ?_ ?_
  rotate_left
  · intro w'
    go_simp
    with_reducible rfl
  rotate_left
  · simp only [Act.put, nA, nB, nC, i64_w, i32_w]
    rfl
  refine pure_ (i := 13) (N := some 17) (v := ?_) (a' := ?_) #[true, true, true, true, false, false, false, false, true, true, true, false, false, true, false, false, false, false] rfl rfl (by kernel_rfl) (fun _ _ _ h => h) (Or.inl ⟨by rfl, ?_⟩) ?_ ?_
  rotate_left
  · intro w'
    go_simp
    with_reducible rfl
  rotate_left
  · simp only [Act.put, nA, nB, nC, i64_w, i32_w]
    rfl
  refine pure_ (i := 14) (N := some 18) (v := ?_) (a' := ?_) #[true, true, true, true, false, false, false, false, true, true, true, false, false, true, true, false, false, false] rfl rfl (by kernel_rfl) (fun _ _ _ h => h) (Or.inl ⟨by rfl, ?_⟩) ?_ ?_
  rotate_left
  · intro w'
    go_simp
    with_reducible rfl
  rotate_left
  · simp only [Act.put, nA, nB, nC, i64_w, i32_w]
    rfl
  refine pure_ (i := 15) (N := some 19) (v := ?_) (a' := ?_) #[true, true, true, true, false, false, false, false, true, true, true, false, false, true, true, true, false, false] rfl rfl (by kernel_rfl) (fun _ _ _ h => h) (Or.inl ⟨by rfl, ?_⟩) ?_ ?_
  rotate_left
  · intro w'
    go_simp
    with_reducible rfl
  rotate_left
  · simp only [Act.put, nA, nB, nC, i64_w, i32_w]
    rfl
  refine take_ (i := 4) (N := some 8) (v := ?_) (a' := ?_) #[true, true, true, true, true, false, false, false, true, true, true, false, false, true, true, true, false, false] rfl rfl (by kernel_rfl) (fun _ _ _ h => h) (Or.inl ⟨by rfl, ?_⟩) hHeld ?_ ?_
  rotate_left
  · rintro w' ⟨s0, s1, s2, s3⟩
    go_simp
    with_reducible rfl
  rotate_left
  · simp only [Act.put, nA, nB, nC, i64_w, i32_w]
    rfl
  refine pure_ (i := 5) (N := some 9) (v := ?_) (a' := ?_) #[true, true, true, true, true, true, false, false, true, true, true, false, false, true, true, true, false, false] rfl rfl (by kernel_rfl) (fun _ _ _ h => h) (Or.inl ⟨by rfl, ?_⟩) ?_ ?_
  rotate_left
  · intro w'
    go_simp
    with_reducible rfl
  rotate_left
  · simp only [Act.put, nA, nB, nC, i64_w, i32_w]
    rfl
  refine pure_ (i := 6) (N := some 10) (v := ?_) (a' := ?_) #[true, true, true, true, true, true, true, false, true, true, true, false, false, true, true, true, false, false] rfl rfl (by kernel_rfl) (fun _ _ _ h => h) (Or.inl ⟨by rfl, ?_⟩) ?_ ?_
  rotate_left
  · intro w'
    go_simp
    with_reducible rfl
  rotate_left
  · simp only [Act.put, nA, nB, nC, i64_w, i32_w]
    rfl
  refine take_ (i := 7) (N := some 11) (v := ?_) (a' := ?_) #[true, true, true, true, true, true, true, true, true, true, true, false, false, true, true, true, false, false] rfl rfl (by kernel_rfl) (fun _ _ _ h => h) (Or.inl ⟨by rfl, ?_⟩) hHeld ?_ ?_
  rotate_left
  · rintro w' ⟨s0, s1, s2, s3⟩
    go_simp
    with_reducible rfl
  rotate_left
  · simp only [Act.put, nA, nB, nC, i64_w, i32_w]
    rfl
  refine take_ (i := 11) (N := some 15) (v := ?_) (a' := ?_) #[true, true, true, true, true, true, true, true, true, true, true, true, false, true, true, true, false, false] rfl rfl (by kernel_rfl) (fun _ _ _ h => h) (Or.inl ⟨by rfl, ?_⟩) hHeld ?_ ?_
  rotate_left
  · rintro w' ⟨s0, s1, s2, s3⟩
    go_simp
    with_reducible rfl
  rotate_left
  · simp only [Act.put, nA, nB, nC, i64_w, i32_w]
    rfl
  refine pure_ (i := 12) (N := some 16) (v := ?_) (a' := ?_) #[true, true, true, true, true, true, true, true, true, true, true, true, true, true, true, true, false, false] rfl rfl (by kernel_rfl) (fun _ _ _ h => h) (Or.inl ⟨by rfl, ?_⟩) ?_ ?_
  rotate_left
  · intro w'
    go_simp
    with_reducible rfl
  rotate_left
  · simp only [Act.put, nA, nB, nC, i64_w, i32_w]
    rfl
  refine take_ (i := 16) (N := some 20) (v := ?_) (a' := ?_) #[true, true, true, true, true, true, true, true, true, true, true, true, true, true, true, true, true, false] rfl rfl (by kernel_rfl) (fun _ _ _ h => h) (Or.inl ⟨by rfl, ?_⟩) hHeld ?_ ?_
  rotate_left
  · rintro w' ⟨s0, s1, s2, s3⟩
    go_simp
    with_reducible rfl
  rotate_left
  · simp only [Act.put, nA, nB, nC, i64_w, i32_w]
    rfl
  refine one_ (i := 17) (N := some 21) #[true, true, true, true, true, true, true, true, true, true, true, true, true, true, true, true, true, true] rfl rfl (by kernel_rfl) (by decide) (fun K hK => ?_)
  refine goes_ Try.func77 (by kernel_rfl) rfl #[.pointer (some ⟨R.pa p, 0, none⟩), .int .i64 (n + p : Nat), .int .i64 (H.procs p).at_] (by rfl) rfl rfl (by simp only [List.map_toArray, List.map_cons, List.map_nil]; rfl) ?_
  with_reducible refine (HW.out).mono ?_
  rintro e w3 ⟨rfl, ⟨s3, hM3⟩, hK3⟩
  refine ⟨_, rfl, ?_⟩
  try clear hHeld
  refine hK.out _ _ ⟨hK3.cellSome nP p0, hK3.cellSome nP p1, hK3.cellSome nP p9, hK3.cellSome nE e6⟩ (fun hHeld => ?_)
  clear hK K
  refine norm_ (a' := ?_) ?_ ?_
  rotate_left
  · show Act.put _ (some 21) _ = _
    simp only [Act.put, nA, nB, nC, i64_w, i32_w]
    rfl
  try clear hHeld
  refine done_ (by kernel_rfl) ?_
  clear p0 p1 p9 e4 e5 e6
  have hB3 := hx.blk.drew.keeps hK3 nP
  have c5 := hB3.cell 5
  have f5 := hB3.frozen 5
  have HC := Lib.hid c5
  clear c5
  go_wp2_with (go_at_call 78; refine (he_goes _ _ _ _ _ _ HC.out f5).mono ?_; rintro e w5 ⟨rfl, rfl⟩)
  go_ret2
  refine h.fin hp (steps := s3) (((Keeps.refl _ _).drew.trans' (hK3.mono fun k hk => .inl hk)).set _ 5 (.inl (.inr rfl)) _) rfl (same_nodes H) (R.bef p) ?_ ?_ _
  · exact hM3.other nP _
  · exact hB3.set 5 _
end Go.Proofs.Ytjfenjnnpikkdaa
