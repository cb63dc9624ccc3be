/-
  Package herlihy in plain Lean: what it does.
-/
import Derived.Test.YtjfenjnnpikkdaaKba
set_option linter.unusedVariables false
set_option linter.unusedSimpArgs false
namespace Go.Proofs.Ytjfenjnnpikkdaa
set_option maxRecDepth 100000

inductive HPh
  | idle | announce | lookHead | lookPlace | take | ask | offer | check | swap | follow | reckon | number | move | finish
  deriving DecidableEq
structure HProc where
  node : Nat
  many : Nat
  ph : HPh
  q : Nat
  other : Nat
  after : Nat
  at_ : Nat
  turn : Nat
  prefer : Nat
structure HNode where
  proc : Nat
  seq : Nat
  op : Op3
  place : Nat
  done : Bool
  st : St
  resp : Int
/-- The engine; chain: the nodes that follow one another, from the first one on. -/
structure HS where
  nodes : List HNode
  chain : List Nat
  ann : Nat → Nat
  head : Nat → Nat
  procs : Nat → HProc

def noNode : HNode := ⟨0, 0, ⟨0, 0, 0⟩, 0, false, ⟨0, [], false, 0⟩, 0⟩
def HS.nd (H : HS) (i : Nat) : HNode := H.nodes.getD i noNode
def HS.put (H : HS) (p : Nat) (x : HProc) : HS := { H with procs := upd H.procs p x }
def HS.setN (H : HS) (i : Nat) (v : HNode) : HS := { H with nodes := H.nodes.set i v }
/-- Which node is behind one. -/
def nextOf : List Nat → Nat → Nat
  | a :: b :: r, x => if a = x then b else nextOf (b :: r) x
  | _, _ => 0
def HS.invoke (H : HS) (p : Nat) (o : Op3) : HS :=
  { H with nodes := H.nodes ++ [⟨p, (H.procs p).many + 1, o, 0, false, ⟨0, [], false, 0⟩, 0⟩], procs := upd H.procs p { H.procs p with many := (H.procs p).many + 1, node := H.nodes.length, ph := .announce } }
def HS.stp (n : Nat) (H : HS) (p : Nat) (x : HProc) : HPh → HS × Int × Bool
  | .idle => (H, 0, false)
  | .announce => ({ H with ann := upd H.ann p x.node }.put p { x with q := 0, turn := 0, ph := .lookHead }, 0, false)
  | .lookHead => (H.put p { x with other := H.head x.q, ph := .lookPlace }, 0, false)
  | .lookPlace => (H.put p { (if x.turn < (H.nd x.other).place then { x with at_ := x.other, turn := (H.nd x.other).place } else x) with q := x.q + 1, ph := if x.q + 1 < n then .lookHead else .take }, 0, false)
  | .take => ({ H with head := upd H.head p x.at_ }.put p { x with ph := .ask }, 0, false)
  | .ask => (H.put p { x with ph := if (H.nd x.node).place ≠ 0 then .finish else .offer }, 0, false)
  | .offer => (H.put p { x with prefer := x.node, other := H.ann (x.turn % n), ph := if H.ann (x.turn % n) = 0 ∨ H.ann (x.turn % n) = x.node then .swap else .check }, 0, false)
  | .check => (H.put p { x with prefer := if (H.nd x.other).place = 0 then x.other else x.prefer, ph := .swap }, 0, false)
  | .swap => ({ H with chain := if nextOf H.chain x.at_ = 0 then H.chain ++ [x.prefer] else H.chain }.put p { x with ph := .follow }, 0, false)
  | .follow => (H.put p { x with after := nextOf H.chain x.at_, ph := .reckon }, 0, false)
  | .reckon => ((H.setN x.after { H.nd x.after with st := (stepS (H.nd x.at_).st (H.nd x.after).op).1, resp := (stepS (H.nd x.at_).st (H.nd x.after).op).2, done := true }).put p { x with ph := .number }, 0, false)
  | .number => ((H.setN x.after { H.nd x.after with place := x.turn + 1 }).put p { x with ph := .move }, 0, false)
  | .move => ({ H with head := upd H.head p x.after }.put p { x with at_ := x.after, turn := x.turn + 1, ph := .ask }, 0, false)
  | .finish => (H.put p { x with ph := if (H.nd x.node).done = true then .idle else .finish }, (H.nd x.node).resp, (H.nd x.node).done)
def HS.step (n : Nat) (H : HS) (p : Nat) : HS × Int × Bool := H.stp n p (H.procs p) (H.procs p).ph

/-- The records of nodes, from an index and a state on. -/
def logGo (nd : Nat → HNode) : Nat → St → List Nat → List Rec
  | _, _, [] => []
  | i, s, x :: r => ⟨i, (nd x).proc, (nd x).seq, (nd x).op, (stepS s (nd x).op).2⟩ :: logGo nd (i + 1) (stepS s (nd x).op).1 r
theorem logGo_length (nd : Nat → HNode) : ∀ (l : List Nat) (i : Nat) (s : St), (logGo nd i s l).length = l.length := by
  intro l
  induction l with
  | nil => intro i s; rfl
  | cons a l ih => intro i s; simp [logGo, ih]
theorem logGo_snoc (nd : Nat → HNode) (x : Nat) : ∀ (l : List Nat) (i : Nat) (s : St), logGo nd i s (l ++ [x]) = logGo nd i s l ++ [⟨i + l.length, (nd x).proc, (nd x).seq, (nd x).op, (stepS (behind s (logGo nd i s l)) (nd x).op).2⟩] := by
  intro l
  induction l with
  | nil => intro i s; simp [logGo, behind]
  | cons a l ih =>
    intro i s
    simp only [List.cons_append, logGo, ih, behind, List.length_cons]
    rw [show i + 1 + l.length = i + (l.length + 1) by omega]
theorem logGo_congr {nd nd' : Nat → HNode} : ∀ (l : List Nat) (i : Nat) (s : St), (∀ x ∈ l, (nd' x).proc = (nd x).proc ∧ (nd' x).seq = (nd x).seq ∧ (nd' x).op = (nd x).op) → logGo nd' i s l = logGo nd i s l := by
  intro l
  induction l with
  | nil => intro i s _; rfl
  | cons a l ih =>
    intro i s h
    obtain ⟨h1, h2, h3⟩ := h a (by simp)
    simp only [logGo, h1, h2, h3]
    rw [ih _ _ (fun x hx => h x (by simp [hx]))]
theorem logGo_take (nd : Nat → HNode) : ∀ (l : List Nat) (k i : Nat) (s : St), (logGo nd i s l).take k = logGo nd i s (l.take k) := by
  intro l
  induction l with
  | nil => intro k i s; simp [logGo]
  | cons a l ih =>
    intro k i s
    rcases k with _ | k
    · simp [logGo]
    · simp [logGo, ih]
theorem logGo_get (nd : Nat → HNode) (l : List Nat) (i : Nat) (s : St) {k x : Nat} (hx : l[k]? = some x) : (logGo nd i s l)[k]? = some ⟨i + k, (nd x).proc, (nd x).seq, (nd x).op, (stepS (behind s (logGo nd i s (l.take k))) (nd x).op).2⟩ := by
  obtain ⟨hl, e⟩ := List.getElem?_eq_some_iff.1 hx
  have h1 : l.take (k + 1) = l.take k ++ [x] := by rw [List.take_succ_eq_append_getElem hl, e]
  have h2 := logGo_take nd l (k + 1) i s
  rw [h1, logGo_snoc, List.length_take, Nat.min_eq_left (by omega)] at h2
  have h3 : ((logGo nd i s l).take (k + 1))[k]? = (logGo nd i s l)[k]? := by rw [List.getElem?_take]; simp
  rw [← h3, h2, List.getElem?_append_right (by rw [logGo_length, List.length_take]; omega), logGo_length, List.length_take, Nat.min_eq_left (by omega)]
  simp
def HS.log (s : St) (H : HS) : List Rec := logGo H.nd 0 s (H.chain.drop 1)

theorem nextOf_at : ∀ (C : List Nat) (k : Nat), C.Nodup → k < C.length → nextOf C (C.getD k 0) = C.getD (k + 1) 0 := by
  intro C
  induction C with
  | nil => intro k _ h; simp at h
  | cons a r ih =>
    intro k hn hk
    rcases r with _ | ⟨b, r⟩
    · have : k = 0 := by simp at hk; omega
      subst this
      simp [nextOf]
    · rcases k with _ | k
      · simp [nextOf]
      · have hn' := (List.nodup_cons.1 hn)
        have hlt : k < (b :: r).length := by simpa using hk
        have hne : ¬ a = (b :: r).getD k 0 := by
          intro e
          rw [List.getD_eq_getElem?_getD, List.getElem?_eq_getElem hlt] at e
          exact hn'.1 (e ▸ List.getElem_mem hlt)
        rw [show (a :: b :: r).getD (k + 1) 0 = (b :: r).getD k 0 by simp, nextOf, if_neg hne, ih k hn'.2 hlt]
        simp
theorem nextOf_out : ∀ (C : List Nat) (x : Nat), x ∉ C → nextOf C x = 0 := by
  intro C
  induction C with
  | nil => intro x _; rfl
  | cons a r ih =>
    intro x h
    rcases r with _ | ⟨b, r⟩
    · rfl
    · rw [nextOf, if_neg (fun e => h (by simp [e])), ih x (fun e => h (by simp [e]))]
theorem nextOf_some {C : List Nat} {k x y : Nat} (hn : C.Nodup) (hx : C[k]? = some x) (hy : C[k + 1]? = some y) : nextOf C x = y := by
  obtain ⟨hl, e⟩ := List.getElem?_eq_some_iff.1 hx
  have h := nextOf_at C k hn hl
  rw [List.getD_eq_getElem?_getD, hx, List.getD_eq_getElem?_getD, hy] at h
  simpa using h
theorem nextOf_last {C : List Nat} {k x : Nat} (hn : C.Nodup) (hx : C[k]? = some x) (hk : C.length = k + 1) : nextOf C x = 0 := by
  obtain ⟨hl, e⟩ := List.getElem?_eq_some_iff.1 hx
  have h := nextOf_at C k hn hl
  rw [List.getD_eq_getElem?_getD, hx, List.getD_eq_getElem?_getD, List.getElem?_eq_none (by omega)] at h
  simpa using h
end Go.Proofs.Ytjfenjnnpikkdaa
/- Package herlihy in plain Lean: what holds at any time. -/
namespace Go.Proofs.Ytjfenjnnpikkdaa
set_option maxRecDepth 100000

def HAt (H : HS) (a t : Nat) : Prop := 1 ≤ t ∧ H.chain[t - 1]? = some a ∧ (H.nd a).place = t
def HScan (n : Nat) (H : HS) (x : HProc) : Prop := x.q < n ∧ ((x.turn = 0 ∧ x.q = 0) ∨ HAt H x.at_ x.turn)
def HPI (n : Nat) (H : HS) (x : HProc) : Prop :=
  match x.ph with
  | .idle => True
  | .announce => True
  | .lookHead => HScan n H x
  | .lookPlace => HScan n H x ∧ (H.nd x.other).place ≠ 0
  | .take => HAt H x.at_ x.turn
  | .ask => HAt H x.at_ x.turn
  | .offer => HAt H x.at_ x.turn ∧ x.node ∉ H.chain.take x.turn
  | .check => HAt H x.at_ x.turn ∧ x.node ∉ H.chain.take x.turn ∧ x.prefer = x.node ∧ 0 < x.other ∧ x.other < H.nodes.length
  | .swap => HAt H x.at_ x.turn ∧ x.prefer ∉ H.chain.take x.turn ∧ 0 < x.prefer ∧ x.prefer < H.nodes.length ∧ x.node ∉ H.chain.take x.turn
  | .follow => HAt H x.at_ x.turn ∧ x.turn < H.chain.length
  | .reckon => HAt H x.at_ x.turn ∧ H.chain[x.turn]? = some x.after
  | .number => HAt H x.at_ x.turn ∧ H.chain[x.turn]? = some x.after ∧ (H.nd x.after).done = true
  | .move => HAt H x.at_ x.turn ∧ H.chain[x.turn]? = some x.after ∧ (H.nd x.after).place = x.turn + 1
  | .finish => (H.nd x.node).place ≠ 0
structure HG (n : Nat) (s : St) (H : HS) : Prop where
  npos : 0 < n
  c0 : H.chain[0]? = some 0
  nodup : H.chain.Nodup
  clt : ∀ x ∈ H.chain, x < H.nodes.length
  p0 : (H.nd 0).place = 1
  plc : ∀ i, (H.nd i).place ≠ 0 → H.chain[(H.nd i).place - 1]? = some i
  pre : ∀ (j k x y : Nat), j ≤ k → H.chain[j]? = some x → H.chain[k]? = some y → (H.nd y).place ≠ 0 → (H.nd x).place ≠ 0
  dn : ∀ i, 0 < i → (H.nd i).place ≠ 0 → (H.nd i).done = true
  dnc : ∀ i, 0 < i → (H.nd i).done = true → i ∈ H.chain
  st0 : (H.nd 0).st = s
  stt : ∀ k i, H.chain[k + 1]? = some i → (H.nd i).done = true → (H.nd i).st = behind s ((H.log s).take (k + 1)) ∧ (H.nd i).resp = (stepS (behind s ((H.log s).take k)) (H.nd i).op).2
  heads : ∀ q, q < n → (H.nd (H.head q)).place ≠ 0
  anns : ∀ q, q < n → H.ann q < H.nodes.length
  lok : LogOK n s (H.log s)
  cnt : ∀ p, p < n → countL (H.log s) p + (if (H.procs p).ph ≠ .idle ∧ (H.procs p).node ∉ H.chain then 1 else 0) = (H.procs p).many
  own : ∀ p, p < n → (H.procs p).ph ≠ .idle → 0 < (H.procs p).node ∧ (H.procs p).node < H.nodes.length ∧ (H.nd (H.procs p).node).proc = p ∧ (H.nd (H.procs p).node).seq = (H.procs p).many
  plq : ∀ i, 0 < i → i < H.nodes.length → (H.nd i).place = 0 → (H.nd i).proc < n ∧ (H.procs (H.nd i).proc).ph ≠ .idle ∧ (H.procs (H.nd i).proc).node = i
  pi : ∀ p, p < n → HPI n H (H.procs p)

theorem nd_lt {H : HS} {i : Nat} (h : (H.nd i).place ≠ 0) : i < H.nodes.length := by
  rcases Nat.lt_or_ge i H.nodes.length with h1 | h1
  · exact h1
  · exfalso; apply h
    simp [HS.nd, List.getD_eq_getElem?_getD, List.getElem?_eq_none h1, noNode]
theorem nd_setN {H : HS} {i : Nat} (v : HNode) (hi : i < H.nodes.length) (j : Nat) : (H.setN i v).nd j = if j = i then v else H.nd j := by
  simp only [HS.nd, HS.setN, List.getD_eq_getElem?_getD, List.getElem?_set]
  by_cases e : i = j
  · subst e; simp [hi]
  · rw [if_neg e, if_neg (fun h => e h.symm)]
theorem HAt.len {H : HS} {a t : Nat} (h : HAt H a t) : t ≤ H.chain.length := by
  obtain ⟨h1, h2, _⟩ := h
  have := (List.getElem?_eq_some_iff.1 h2).1
  omega

/-- What only grows. -/
structure HLe (H H' : HS) : Prop where
  ch : ∃ e, H'.chain = H.chain ++ e
  len : H.nodes.length ≤ H'.nodes.length
  pl : ∀ i, (H.nd i).place ≠ 0 → (H'.nd i).place = (H.nd i).place
  dn : ∀ i, i < H.nodes.length → (H.nd i).done = true → (H'.nd i).done = true
theorem HLe.get {H H' : HS} (h : HLe H H') {k x : Nat} (hx : H.chain[k]? = some x) : H'.chain[k]? = some x := by
  obtain ⟨e, he⟩ := h.ch
  rw [he, List.getElem?_append_left (List.getElem?_eq_some_iff.1 hx).1]; exact hx
theorem HLe.at {H H' : HS} (h : HLe H H') {a t : Nat} (hx : HAt H a t) : HAt H' a t := ⟨hx.1, h.get hx.2.1, by rw [h.pl a (by have := hx.1; have := hx.2.2; omega), hx.2.2]⟩
theorem HLe.take {H H' : HS} (h : HLe H H') {t : Nat} (ht : t ≤ H.chain.length) : H'.chain.take t = H.chain.take t := by
  obtain ⟨e, he⟩ := h.ch
  rw [he, List.take_append_of_le_length ht]
theorem HPI.mono {n : Nat} {H H' : HS} {x : HProc} (hc : ∀ i ∈ H.chain, i < H.nodes.length) (h : HLe H H') (hx : HPI n H x) : HPI n H' x := by
  unfold HPI at hx ⊢
  have hsc : HScan n H x → HScan n H' x := fun g => ⟨g.1, g.2.imp id h.at⟩
  cases hp : x.ph <;> simp only [hp] at hx ⊢
  · exact hsc hx
  · exact ⟨hsc hx.1, by rw [h.pl _ hx.2]; exact hx.2⟩
  · exact h.at hx
  · exact h.at hx
  · exact ⟨h.at hx.1, by rw [h.take hx.1.len]; exact hx.2⟩
  · exact ⟨h.at hx.1, by rw [h.take hx.1.len]; exact hx.2.1, hx.2.2.1, hx.2.2.2.1, Nat.lt_of_lt_of_le hx.2.2.2.2 h.len⟩
  · exact ⟨h.at hx.1, by rw [h.take hx.1.len]; exact hx.2.1, hx.2.2.1, Nat.lt_of_lt_of_le hx.2.2.2.1 h.len, by rw [h.take hx.1.len]; exact hx.2.2.2.2⟩
  · obtain ⟨e, he⟩ := h.ch
    exact ⟨h.at hx.1, by rw [he, List.length_append]; omega⟩
  · exact ⟨h.at hx.1, h.get hx.2⟩
  · exact ⟨h.at hx.1, h.get hx.2.1, h.dn _ (hc _ (List.mem_of_getElem? hx.2.1)) hx.2.2⟩
  · exact ⟨h.at hx.1, h.get hx.2.1, by rw [h.pl _ (by rw [hx.2.2]; omega)]; exact hx.2.2⟩
  · rw [h.pl _ hx]; exact hx

theorem HG.out {n : Nat} {s : St} {H : HS} (g : HG n s H) (i : Nat) (h0 : 0 < i) (h1 : i < H.nodes.length) (h2 : i ∉ H.chain) : (H.nd i).proc < n ∧ (H.procs (H.nd i).proc).ph ≠ .idle ∧ (H.procs (H.nd i).proc).node = i :=
  g.plq i h0 h1 (Classical.byContradiction fun h => h2 (List.mem_of_getElem? (g.plc i h)))
/-- A node whose place is not known does not stand among those up to one that is. -/
theorem HG.notin {n : Nat} {s : St} {H : HS} (g : HG n s H) {a t i : Nat} (ha : HAt H a t) (hi : (H.nd i).place = 0) : i ∉ H.chain.take t := by
  intro hm
  obtain ⟨k, hk⟩ := List.getElem?_of_mem hm
  rw [List.getElem?_take] at hk
  split at hk
  · rename_i hlt
    exact g.pre k (t - 1) i a (by omega) hk ha.2.1 (by have := ha.1; have := ha.2.2; omega) hi
  · cases hk
theorem HG.inj {n : Nat} {s : St} {H : HS} (g : HG n s H) {j k x : Nat} (hj : H.chain[j]? = some x) (hk : H.chain[k]? = some x) : j = k := by
  obtain ⟨h1, e1⟩ := List.getElem?_eq_some_iff.1 hj
  obtain ⟨h2, e2⟩ := List.getElem?_eq_some_iff.1 hk
  exact (List.getElem_inj g.nodup).1 (e1.trans e2.symm)
theorem HG.at0 {n : Nat} {s : St} {H : HS} (g : HG n s H) {i : Nat} (hi : (H.nd i).place ≠ 0) : HAt H i (H.nd i).place := ⟨by omega, g.plc i hi, rfl⟩

/-- A step that changes neither nodes nor what follows what. -/
theorem HG.go {n : Nat} {s : St} {H : HS} (g : HG n s H) {p : Nat} (hp : p < n) (x' : HProc) (ann' head' : Nat → Nat) (hn : x'.node = (H.procs p).node) (hm : x'.many = (H.procs p).many)
    (hi : (H.procs p).ph ≠ .idle) (hi' : x'.ph ≠ .idle ∨ (H.nd (H.procs p).node).place ≠ 0) (ha : ∀ q, q < n → ann' q < H.nodes.length) (hh : ∀ q, q < n → (H.nd (head' q)).place ≠ 0) (hx : HPI n H x') :
    HG n s { H with ann := ann', head := head', procs := upd H.procs p x' } := by
  have hq : ∀ q, q ≠ p → upd H.procs p x' q = H.procs q := fun q h => upd_ne _ _ h
  refine ⟨g.npos, g.c0, g.nodup, g.clt, g.p0, g.plc, g.pre, g.dn, g.dnc, g.st0, g.stt, hh, ha, g.lok, fun q hqn => ?_, fun q hqn hb => ?_, fun i h0 h1 h2 => ?_, fun q hqn => ?_⟩
  · have h := g.cnt q hqn
    by_cases e : q = p
    · subst e
      show countL (H.log s) q + (if (upd H.procs q x' q).ph ≠ .idle ∧ (upd H.procs q x' q).node ∉ H.chain then 1 else 0) = (upd H.procs q x' q).many
      rw [upd_same, hn, hm, ← h]
      congr 1
      rcases hi' with hi' | hi'
      · simp [hi, hi']
      · have hmem := List.mem_of_getElem? (g.plc _ hi')
        simp [hmem]
    · show countL (H.log s) q + (if (upd H.procs p x' q).ph ≠ .idle ∧ (upd H.procs p x' q).node ∉ H.chain then 1 else 0) = (upd H.procs p x' q).many
      rw [hq q e]; exact h
  · by_cases e : q = p
    · subst e
      have h := g.own q hqn hi
      show 0 < (upd H.procs q x' q).node ∧ (upd H.procs q x' q).node < H.nodes.length ∧ (H.nd (upd H.procs q x' q).node).proc = q ∧ (H.nd (upd H.procs q x' q).node).seq = (upd H.procs q x' q).many
      rw [upd_same, hn, hm]; exact h
    · have hb' : (H.procs q).ph ≠ .idle := by have := hb; simp only [hq q e] at this; exact this
      have h := g.own q hqn hb'
      show 0 < (upd H.procs p x' q).node ∧ (upd H.procs p x' q).node < H.nodes.length ∧ (H.nd (upd H.procs p x' q).node).proc = q ∧ (H.nd (upd H.procs p x' q).node).seq = (upd H.procs p x' q).many
      rw [hq q e]; exact h
  · have h := g.plq i h0 h1 h2
    show (H.nd i).proc < n ∧ (upd H.procs p x' (H.nd i).proc).ph ≠ .idle ∧ (upd H.procs p x' (H.nd i).proc).node = i
    by_cases e : (H.nd i).proc = p
    · rw [e] at h ⊢
      rw [upd_same, hn]
      refine ⟨h.1, ?_, h.2.2⟩
      rcases hi' with hi' | hi'
      · exact hi'
      · exact absurd h2 (h.2.2 ▸ hi')
    · rw [hq _ e]; exact h
  · by_cases e : q = p
    · subst e
      show HPI n _ (upd H.procs q x' q)
      rw [upd_same]; exact hx
    · show HPI n _ (upd H.procs p x' q)
      rw [hq q e]; exact g.pi q hqn
end Go.Proofs.Ytjfenjnnpikkdaa
/- Package herlihy in plain Lean: what holds, holds behind a step. -/
namespace Go.Proofs.Ytjfenjnnpikkdaa
set_option maxRecDepth 100000
section
variable {n p : Nat} {s : St} {H : HS}

theorem HG.log_set (g : HG n s H) {i : Nat} (hi : i < H.nodes.length) (v : HNode) (hv : v.proc = (H.nd i).proc ∧ v.seq = (H.nd i).seq ∧ v.op = (H.nd i).op) (pr : Nat → HProc) :
    HS.log s { H.setN i v with procs := pr } = H.log s := by
  refine logGo_congr _ _ _ fun x hx => ?_
  have e : HS.nd { H.setN i v with procs := pr } x = (H.setN i v).nd x := rfl
  rw [e, nd_setN v hi]
  split
  · rename_i h; subst h; exact hv
  · exact ⟨rfl, rfl, rfl⟩
/-- A step that tells something of a node that stands on the list. -/
theorem HG.chg (g : HG n s H) (hp : p < n) {k i : Nat} (hk : H.chain[k + 1]? = some i) (v : HNode) (hv : v.proc = (H.nd i).proc ∧ v.seq = (H.nd i).seq ∧ v.op = (H.nd i).op)
    (hpl : v.place = (H.nd i).place ∨ v.place = k + 2) (hat : ∀ x, H.chain[k]? = some x → (H.nd x).place ≠ 0) (hd : v.done = true)
    (hst : v.st = behind s ((H.log s).take (k + 1)) ∧ v.resp = (stepS (behind s ((H.log s).take k)) v.op).2) (x' : HProc) (hn : x'.node = (H.procs p).node) (hm : x'.many = (H.procs p).many)
    (hb : (H.procs p).ph ≠ .idle) (hb' : x'.ph ≠ .idle) (hx : HPI n { H.setN i v with procs := upd H.procs p x' } x') : HG n s { H.setN i v with procs := upd H.procs p x' } := by
  have hi : i < H.nodes.length := g.clt i (List.mem_of_getElem? hk)
  have hlog := g.log_set hi v hv (upd H.procs p x')
  have hnd : ∀ j, HS.nd { H.setN i v with procs := upd H.procs p x' } j = if j = i then v else H.nd j := fun j => nd_setN v hi j
  have hlen : ({ H.setN i v with procs := upd H.procs p x' } : HS).nodes.length = H.nodes.length := by simp [HS.setN]
  have hpi : (H.nd i).place ≠ 0 → v.place = (H.nd i).place := fun h => by
    rcases hpl with e | e
    · exact e
    · have := g.inj (g.plc i h) hk; omega
  have hle : HLe H { H.setN i v with procs := upd H.procs p x' } := by
    refine ⟨⟨[], by simp [HS.setN]⟩, by rw [hlen]; exact Nat.le_refl _, fun j hj => ?_, fun j hj hdj => ?_⟩
    · rw [hnd]; split
      · rename_i e; subst e; exact hpi hj
      · rfl
    · rw [hnd]; split
      · exact hd
      · exact hdj
  have hi0 : i ≠ 0 := fun e => by
    subst e
    have := g.inj hk g.c0; omega
  have hndp : ∀ j, (HS.nd { H.setN i v with procs := upd H.procs p x' } j).proc = (H.nd j).proc ∧ (HS.nd { H.setN i v with procs := upd H.procs p x' } j).seq = (H.nd j).seq ∧ (HS.nd { H.setN i v with procs := upd H.procs p x' } j).op = (H.nd j).op := fun j => by
    rw [hnd]; split
    · rename_i e; subst e; exact hv
    · exact ⟨rfl, rfl, rfl⟩
  have hch : ({ H.setN i v with procs := upd H.procs p x' } : HS).chain = H.chain := rfl
  have hpr : ({ H.setN i v with procs := upd H.procs p x' } : HS).procs = upd H.procs p x' := rfl
  have hhd : ({ H.setN i v with procs := upd H.procs p x' } : HS).head = H.head := rfl
  have han : ({ H.setN i v with procs := upd H.procs p x' } : HS).ann = H.ann := rfl
  have hpn : ∀ q, (upd H.procs p x' q).node = (H.procs q).node ∧ (upd H.procs p x' q).many = (H.procs q).many ∧ ((upd H.procs p x' q).ph ≠ .idle ↔ (H.procs q).ph ≠ .idle) := fun q => by
    by_cases e : q = p
    · subst e; rw [upd_same]; exact ⟨hn, hm, ⟨fun _ => hb, fun _ => hb'⟩⟩
    · rw [upd_ne _ _ e]; exact ⟨rfl, rfl, Iff.rfl⟩
  generalize ({ H.setN i v with procs := upd H.procs p x' } : HS) = H' at *
  have hplne : ∀ j, (H.nd j).place ≠ 0 → (H'.nd j).place ≠ 0 := fun j hj => by rw [hle.pl j hj]; exact hj
  refine ⟨g.npos, by rw [hch]; exact g.c0, by rw [hch]; exact g.nodup, fun x hx => by rw [hlen]; exact g.clt x (by rw [← hch]; exact hx), ?_, fun j hj => ?_, fun j l x y hjl hx hy hyp => ?_, fun j h0 hj => ?_, fun j h0 hj => ?_, ?_, fun l j hl hj => ?_, fun q hq => by rw [hhd]; exact hplne _ (g.heads q hq), fun q hq => by rw [han, hlen]; exact g.anns q hq, by rw [hlog]; exact g.lok, fun q hq => ?_, fun q hq hbq => ?_, fun j h0 h1 h2 => ?_, fun q hq => ?_⟩
  · rw [hnd, if_neg (fun e => hi0 e.symm)]; exact g.p0
  · rw [hch]
    rw [hnd] at hj ⊢
    by_cases e : j = i
    · subst e
      rw [if_pos rfl] at hj ⊢
      rcases hpl with e | e
      · rw [e] at hj ⊢; exact g.plc j hj
      · rw [e]; exact hk
    · rw [if_neg e] at hj ⊢; exact g.plc j hj
  · rw [hch] at hx hy
    by_cases e : y = i
    · subst e
      have e2 := g.inj hy hk
      subst e2
      by_cases e3 : j = k + 1
      · subst e3
        rw [hx] at hk
        have : x = y := by simpa using hk
        rw [this]; exact hyp
      · obtain ⟨z, hz⟩ : ∃ z, H.chain[k]? = some z := ⟨_, List.getElem?_eq_getElem (by have := (List.getElem?_eq_some_iff.1 hk).1; omega)⟩
        exact hplne _ (g.pre j k x z (by omega) hx hz (hat z hz))
    · rw [hnd, if_neg e] at hyp
      exact hplne _ (g.pre j l x y hjl hx hy hyp)
  · rw [hnd] at hj ⊢
    by_cases e : j = i
    · rw [if_pos e]; exact hd
    · rw [if_neg e] at hj ⊢; exact g.dn j h0 hj
  · rw [hch]
    rw [hnd] at hj
    by_cases e : j = i
    · rw [e]; exact List.mem_of_getElem? hk
    · rw [if_neg e] at hj; exact g.dnc j h0 hj
  · rw [hnd, if_neg (fun e => hi0 e.symm)]; exact g.st0
  · rw [hlog]
    rw [hch] at hl
    rw [hnd] at hj ⊢
    by_cases e : j = i
    · subst e
      have := g.inj hl hk
      have e2 : l = k := by omega
      subst e2
      rw [if_pos rfl]; exact hst
    · rw [if_neg e] at hj ⊢; exact g.stt l j hl hj
  · rw [hlog, hpr, hch, (hpn q).1, (hpn q).2.1]
    have h := g.cnt q hq
    rw [← h]
    congr 1
    by_cases e : (H.procs q).ph = .idle
    · have e' : (upd H.procs p x' q).ph = .idle := by
        apply Classical.byContradiction; intro h'; exact (hpn q).2.2.1 h' e
      simp [e, e']
    · have e' := (hpn q).2.2.2 e
      simp [e, e']
  · rw [hpr] at hbq ⊢
    rw [(hpn q).1, (hpn q).2.1, hlen, (hndp _).1, (hndp _).2.1]
    exact g.own q hq ((hpn q).2.2.1 hbq)
  · rw [hlen] at h1
    have h2' : (H.nd j).place = 0 := by
      apply Classical.byContradiction; intro h; exact hplne j h h2
    rw [(hndp j).1, hpr, (hpn _).1]
    obtain ⟨a1, a2, a3⟩ := g.plq j h0 h1 h2'
    exact ⟨a1, (hpn _).2.2.2 a2, a3⟩
  · rw [hpr]
    by_cases e : q = p
    · subst e; rw [upd_same]; exact hx
    · rw [upd_ne _ _ e]
      exact HPI.mono g.clt hle (g.pi q hq)
/-- A node is put behind the last one. -/
theorem HG.grow (g : HG n s H) (hp : p < n) {i : Nat} (hi0 : 0 < i) (hil : i < H.nodes.length) (hic : i ∉ H.chain) (x' : HProc) (hn : x'.node = (H.procs p).node) (hm : x'.many = (H.procs p).many)
    (hb : (H.procs p).ph ≠ .idle) (hb' : x'.ph ≠ .idle) (hx : HPI n { H with chain := H.chain ++ [i], procs := upd H.procs p x' } x') : HG n s { H with chain := H.chain ++ [i], procs := upd H.procs p x' } ∧
      HS.log s { H with chain := H.chain ++ [i], procs := upd H.procs p x' } = H.log s ++ [⟨(H.log s).length, (H.nd i).proc, (H.nd i).seq, (H.nd i).op, (stepS (behind s (H.log s)) (H.nd i).op).2⟩] := by
  obtain ⟨o1, o2, o3⟩ := g.out i hi0 hil hic
  have hcl : 1 ≤ H.chain.length := by have := (List.getElem?_eq_some_iff.1 g.c0).1; omega
  have hlog : HS.log s { H with chain := H.chain ++ [i], procs := upd H.procs p x' } = H.log s ++ [⟨(H.log s).length, (H.nd i).proc, (H.nd i).seq, (H.nd i).op, (stepS (behind s (H.log s)) (H.nd i).op).2⟩] := by
    show logGo H.nd 0 s ((H.chain ++ [i]).drop 1) = _
    rw [List.drop_append_of_le_length hcl, logGo_snoc]
    show _ = logGo H.nd 0 s (H.chain.drop 1) ++ _
    rw [Nat.zero_add, ← logGo_length H.nd (H.chain.drop 1) 0 s]
    rfl
  have hll : (H.log s).length = H.chain.length - 1 := by unfold HS.log; rw [logGo_length, List.length_drop]
  have hnp : (H.nd i).place = 0 := Classical.byContradiction fun h => hic (List.mem_of_getElem? (g.plc i h))
  have hnd : ∀ j, HS.nd { H with chain := H.chain ++ [i], procs := upd H.procs p x' } j = H.nd j := fun j => rfl
  have hle : HLe H { H with chain := H.chain ++ [i], procs := upd H.procs p x' } := ⟨⟨[i], rfl⟩, Nat.le_refl _, fun j _ => rfl, fun j _ h => h⟩
  have hpn : ∀ q, (upd H.procs p x' q).node = (H.procs q).node ∧ (upd H.procs p x' q).many = (H.procs q).many ∧ ((upd H.procs p x' q).ph ≠ .idle ↔ (H.procs q).ph ≠ .idle) := fun q => by
    by_cases e : q = p
    · subst e; rw [upd_same]; exact ⟨hn, hm, ⟨fun _ => hb, fun _ => hb'⟩⟩
    · rw [upd_ne _ _ e]; exact ⟨rfl, rfl, Iff.rfl⟩
  have hcases : ∀ {j y : Nat}, (H.chain ++ [i])[j]? = some y → H.chain[j]? = some y ∨ (j = H.chain.length ∧ y = i) := fun {j y} hj => by
    rcases Nat.lt_or_ge j H.chain.length with h | h
    · rw [List.getElem?_append_left h] at hj; exact .inl hj
    · rw [List.getElem?_append_right h] at hj
      have hl := (List.getElem?_eq_some_iff.1 hj).1
      simp at hl
      have e : j = H.chain.length := by omega
      subst e
      simp at hj
      exact .inr ⟨rfl, hj.symm⟩
  have hown := g.own _ o1 o2
  rw [o3] at hown
  have hct := g.cnt _ o1
  rw [o3, if_pos ⟨o2, hic⟩] at hct
  refine ⟨⟨g.npos, hle.get g.c0, ?_, fun x hx => ?_, g.p0, fun j hj => hle.get (g.plc j hj), fun j l x y hjl hx hy hyp => ?_, g.dn, fun j h0 hj => List.mem_append_left _ (g.dnc j h0 hj), g.st0, fun l j hl hj => ?_, g.heads, g.anns, ?_, fun q hq => ?_, fun q hq hbq => ?_, fun j h0 h1 h2 => ?_, fun q hq => ?_⟩, hlog⟩
  · rw [List.nodup_append]
    exact ⟨g.nodup, by simp, fun a ha b hb e => by simp at hb; subst hb; subst e; exact hic ha⟩
  · rcases List.mem_append.1 hx with h | h
    · exact g.clt x h
    · simp at h; subst h; exact hil
  · rcases hcases hy with hy | ⟨rfl, rfl⟩
    · have hx' : H.chain[j]? = some x := by
        have := (List.getElem?_eq_some_iff.1 hy).1
        rw [List.getElem?_append_left (by omega)] at hx; exact hx
      exact g.pre j l x y hjl hx' hy hyp
    · exact absurd hnp hyp
  · rw [hlog]
    rcases hcases hl with hl | ⟨h1, rfl⟩
    · have hlt := (List.getElem?_eq_some_iff.1 hl).1
      rw [List.take_append_of_le_length (by omega), List.take_append_of_le_length (by omega)]
      exact g.stt l j hl hj
    · exact absurd (g.dnc j hi0 hj) hic
  · rw [hlog]
    exact LogOK.snoc g.lok rfl o1 (by show (H.nd i).seq = countL (H.log s) (H.nd i).proc + 1; rw [hown.2.2.2]; exact hct.symm) rfl
  · rw [hlog, countL_snoc]
    show countL (H.log s) q + (if (H.nd i).proc = q then 1 else 0) + (if (upd H.procs p x' q).ph ≠ .idle ∧ (upd H.procs p x' q).node ∉ H.chain ++ [i] then 1 else 0) = (upd H.procs p x' q).many
    rw [(hpn q).1, (hpn q).2.1]
    by_cases e : (H.nd i).proc = q
    · subst e
      rw [if_pos rfl, o3, if_neg (by simp), Nat.add_zero]
      exact hct
    · rw [if_neg e, Nat.add_zero, ← g.cnt q hq]
      congr 1
      by_cases e1 : (H.procs q).ph = .idle
      · have e' : (upd H.procs p x' q).ph = .idle := by
          apply Classical.byContradiction; intro h'; exact (hpn q).2.2.1 h' e1
        simp [e1, e']
      · have e' := (hpn q).2.2.2 e1
        have e2 : (H.procs q).node ≠ i := fun h => e (by rw [← h]; exact (g.own q hq e1).2.2.1)
        simp [e1, e', e2]
  · show 0 < (upd H.procs p x' q).node ∧ (upd H.procs p x' q).node < H.nodes.length ∧ (H.nd (upd H.procs p x' q).node).proc = q ∧ (H.nd (upd H.procs p x' q).node).seq = (upd H.procs p x' q).many
    rw [(hpn q).1, (hpn q).2.1]
    exact g.own q hq ((hpn q).2.2.1 hbq)
  · obtain ⟨a1, a2, a3⟩ := g.plq j h0 h1 h2
    refine ⟨a1, (hpn _).2.2.2 a2, ?_⟩
    show (upd H.procs p x' (H.nd j).proc).node = j
    rw [(hpn _).1]; exact a3
  · by_cases e : q = p
    · subst e
      show HPI n _ (upd H.procs q x' q)
      rw [upd_same]; exact hx
    · show HPI n _ (upd H.procs p x' q)
      rw [upd_ne _ _ e]
      exact HPI.mono g.clt hle (g.pi q hq)
end
end Go.Proofs.Ytjfenjnnpikkdaa
/- Layer 15 in plain Lean: a list to which all help each other, as an object that its callers share. -/
namespace Go.Proofs.Ytjfenjnnpikkdaa
set_option maxRecDepth 100000
section
variable {n p : Nat} {s : St} {H : HS}

theorem HG.step_ (g : HG n s H) (hp : p < n) (hb : (H.procs p).ph ≠ .idle) : HG n s (H.step n p).1 ∧ ∃ m, HS.log s (H.step n p).1 = H.log s ++ m := by
  have hown := g.own p hp hb
  have hx := g.pi p hp
  unfold HPI at hx
  unfold HS.step
  generalize hxx : H.procs p = x at *
  have hn0 := g.npos
  cases hph : x.ph <;> simp only [hph] at hx <;> simp only [HS.stp]
  case idle => exact absurd hph hb
  case announce =>
    refine ⟨HG.go g hp _ _ _ (by rw [hxx]) (by rw [hxx]) (by rw [hxx]; exact hb) (.inl (by simp)) (fun q hq => ?_) g.heads ⟨hn0, .inl ⟨rfl, rfl⟩⟩, [], by simp; rfl⟩
    show upd H.ann p x.node q < _
    by_cases e : q = p
    · subst e; rw [upd_same]; exact hown.2.1
    · rw [upd_ne _ _ e]; exact g.anns q hq
  case lookHead =>
    exact ⟨HG.go g hp _ _ _ (by rw [hxx]) (by rw [hxx]) (by rw [hxx]; exact hb) (.inl (by simp)) g.anns g.heads ⟨hx, g.heads _ hx.1⟩, [], by simp; rfl⟩
  case lookPlace =>
    have hat : ∀ y : HProc, y = (if x.turn < (H.nd x.other).place then { x with at_ := x.other, turn := (H.nd x.other).place } else x) → HAt H y.at_ y.turn ∧ y.node = x.node ∧ y.many = x.many := by
      intro y hy
      subst hy
      split
      · exact ⟨g.at0 hx.2, rfl, rfl⟩
      · rename_i h
        refine ⟨?_, rfl, rfl⟩
        rcases hx.1.2 with ⟨h1, _⟩ | h1
        · have := hx.2; omega
        · exact h1
    generalize hy : (if x.turn < (H.nd x.other).place then { x with at_ := x.other, turn := (H.nd x.other).place } else x) = y at *
    obtain ⟨h1, h2, h3⟩ := hat y rfl
    refine ⟨HG.go g hp { y with q := x.q + 1, ph := if x.q + 1 < n then .lookHead else .take } _ _ (by rw [hxx]; exact h2) (by rw [hxx]; exact h3) (by rw [hxx]; exact hb) (.inl (by simp only; split <;> simp)) g.anns g.heads ?_, [], by simp; rfl⟩
    unfold HPI
    by_cases c : x.q + 1 < n
    · simp only [c, if_true]; exact ⟨c, .inr h1⟩
    · simp only [c, if_false]; exact h1
  case take =>
    refine ⟨HG.go g hp _ _ _ (by rw [hxx]) (by rw [hxx]) (by rw [hxx]; exact hb) (.inl (by simp)) g.anns (fun q hq => ?_) hx, [], by simp; rfl⟩
    show (H.nd (upd H.head p x.at_ q)).place ≠ 0
    by_cases e : q = p
    · subst e; rw [upd_same]; have := hx.1; have := hx.2.2; omega
    · rw [upd_ne _ _ e]; exact g.heads q hq
  case ask =>
    refine ⟨HG.go g hp _ _ _ (by rw [hxx]) (by rw [hxx]) (by rw [hxx]; exact hb) (.inl (by simp only; split <;> simp)) g.anns g.heads ?_, [], by simp; rfl⟩
    unfold HPI
    by_cases c : (H.nd x.node).place = 0
    · simp only [c, ne_eq, not_true, if_false]; exact ⟨hx, g.notin hx c⟩
    · simp only [ne_eq, c, not_false_iff, if_true]
  case offer =>
    refine ⟨HG.go g hp _ _ _ (by rw [hxx]) (by rw [hxx]) (by rw [hxx]; exact hb) (.inl (by simp only; split <;> simp)) g.anns g.heads ?_, [], by simp; rfl⟩
    unfold HPI
    by_cases c : H.ann (x.turn % n) = 0 ∨ H.ann (x.turn % n) = x.node
    · simp only [c, if_true]; exact ⟨hx.1, hx.2, hown.1, hown.2.1, hx.2⟩
    · simp only [c, if_false]
      exact ⟨hx.1, hx.2, (by first | rfl | trivial), by omega, g.anns _ (Nat.mod_lt _ hn0)⟩
  case check =>
    refine ⟨HG.go g hp _ _ _ (by rw [hxx]) (by rw [hxx]) (by rw [hxx]; exact hb) (.inl (by simp)) g.anns g.heads ?_, [], by simp; rfl⟩
    unfold HPI
    by_cases c : (H.nd x.other).place = 0
    · simp only [c, if_true]; exact ⟨hx.1, g.notin hx.1 c, hx.2.2.2.1, hx.2.2.2.2, hx.2.1⟩
    · simp only [c, if_false]; rw [hx.2.2.1]; exact ⟨hx.1, hx.2.1, hown.1, hown.2.1, hx.2.1⟩
  case swap =>
    obtain ⟨h1, h2, h3, h4, h5⟩ := hx
    have hlen := h1.len
    have ht := h1.1
    by_cases c : nextOf H.chain x.at_ = 0
    · simp only [c, if_true]
      have hl : H.chain.length = x.turn := by
        apply Classical.byContradiction; intro hne
        obtain ⟨y, hy⟩ : ∃ y, H.chain[x.turn - 1 + 1]? = some y := ⟨_, List.getElem?_eq_getElem (by omega)⟩
        have e := nextOf_some g.nodup h1.2.1 hy
        rw [c] at e
        subst e
        have := g.inj hy g.c0; omega
      rw [← hl, List.take_length] at h2
      have hg := g.grow hp h3 h4 h2 { x with ph := .follow } (by rw [hxx]) (by rw [hxx]) (by rw [hxx]; exact hb) (by simp) ⟨⟨ht, by simp only; rw [List.getElem?_append_left (by omega)]; exact h1.2.1, h1.2.2⟩, by simp; omega⟩
      exact ⟨hg.1, _, hg.2⟩
    · simp only [c, if_false]
      refine ⟨HG.go g hp { x with ph := .follow } _ _ (by rw [hxx]) (by rw [hxx]) (by rw [hxx]; exact hb) (.inl (by simp)) g.anns g.heads ⟨h1, ?_⟩, [], by simp; rfl⟩
      apply Classical.byContradiction; intro hne
      exact c (nextOf_last g.nodup h1.2.1 (by simp only at hne; omega))
  case follow =>
    refine ⟨HG.go g hp _ _ _ (by rw [hxx]) (by rw [hxx]) (by rw [hxx]; exact hb) (.inl (by simp)) g.anns g.heads ⟨hx.1, ?_⟩, [], by simp; rfl⟩
    simp only
    have ht := hx.1.1
    obtain ⟨y, hy⟩ : ∃ y, H.chain[x.turn]? = some y := ⟨_, List.getElem?_eq_getElem hx.2⟩
    have hy' : H.chain[x.turn - 1 + 1]? = some y := by rw [show x.turn - 1 + 1 = x.turn by omega]; exact hy
    rw [nextOf_some g.nodup hx.1.2.1 hy']; exact hy
  case reckon =>
    obtain ⟨h1, h2⟩ := hx
    have ht := h1.1
    have hk : H.chain[x.turn - 1 + 1]? = some x.after := by rw [show x.turn - 1 + 1 = x.turn by omega]; exact h2
    have hil := g.clt _ (List.mem_of_getElem? hk)
    have hsa : (H.nd x.at_).st = behind s ((H.log s).take (x.turn - 1)) := by
      by_cases e : x.turn = 1
      · have h0 := h1.2.1
        rw [e] at h0
        have := g.c0.symm.trans h0
        have e0 : x.at_ = 0 := by simpa using this.symm
        rw [e0, g.st0, e]; simp [behind]
      · have hk2 : H.chain[x.turn - 2 + 1]? = some x.at_ := by rw [show x.turn - 2 + 1 = x.turn - 1 by omega]; exact h1.2.1
        have ha0 : 0 < x.at_ := Nat.pos_of_ne_zero fun e0 => by rw [e0] at hk2; have := g.inj hk2 g.c0; omega
        have := (g.stt _ _ hk2 (g.dn _ ha0 (by have := h1.2.2; omega))).1
        rw [this, show x.turn - 2 + 1 = x.turn - 1 by omega]
    have hg : (H.log s)[x.turn - 1]? = some ⟨x.turn - 1, (H.nd x.after).proc, (H.nd x.after).seq, (H.nd x.after).op, (stepS (behind s ((H.log s).take (x.turn - 1))) (H.nd x.after).op).2⟩ := by
      have hd : (H.chain.drop 1)[x.turn - 1]? = some x.after := by rw [List.getElem?_drop, Nat.add_comm]; exact hk
      have := logGo_get H.nd (H.chain.drop 1) 0 s hd
      rw [Nat.zero_add, ← logGo_take] at this
      exact this
    have htk : (H.log s).take (x.turn - 1 + 1) = (H.log s).take (x.turn - 1) ++ [⟨x.turn - 1, (H.nd x.after).proc, (H.nd x.after).seq, (H.nd x.after).op, (stepS (behind s ((H.log s).take (x.turn - 1))) (H.nd x.after).op).2⟩] := by
      obtain ⟨hl, e⟩ := List.getElem?_eq_some_iff.1 hg
      rw [List.take_succ_eq_append_getElem hl, e]
    have hgo := g.chg hp hk { H.nd x.after with st := (stepS (H.nd x.at_).st (H.nd x.after).op).1, resp := (stepS (H.nd x.at_).st (H.nd x.after).op).2, done := true } ⟨rfl, rfl, rfl⟩ (.inl rfl) (fun y hy => by
        have := hy.symm.trans h1.2.1
        have e : y = x.at_ := by simpa using this
        rw [e]; have := h1.2.2; omega) rfl ⟨by simp only; rw [htk, behind_snoc, hsa], by simp only; rw [hsa]⟩ { x with ph := .number } (by rw [hxx]) (by rw [hxx]) (by rw [hxx]; exact hb) (by simp)
      ⟨⟨ht, h1.2.1, ?_⟩, h2, ?_⟩
    · exact ⟨hgo, [], by rw [List.append_nil]; exact g.log_set hil { H.nd x.after with st := (stepS (H.nd x.at_).st (H.nd x.after).op).1, resp := (stepS (H.nd x.at_).st (H.nd x.after).op).2, done := true } ⟨rfl, rfl, rfl⟩ _⟩
    · show ((H.setN x.after _).nd x.at_).place = x.turn
      rw [nd_setN _ hil]; split
      · rename_i e; rw [← e]; exact h1.2.2
      · exact h1.2.2
    · show ((H.setN x.after _).nd x.after).done = true
      rw [nd_setN _ hil, if_pos rfl]
  case number =>
    obtain ⟨h1, h2, h3⟩ := hx
    have ht := h1.1
    have hk : H.chain[x.turn - 1 + 1]? = some x.after := by rw [show x.turn - 1 + 1 = x.turn by omega]; exact h2
    have hil := g.clt _ (List.mem_of_getElem? hk)
    have hst := g.stt _ _ hk h3
    have hgo := g.chg hp hk { H.nd x.after with place := x.turn + 1 } ⟨rfl, rfl, rfl⟩ (.inr (by simp only; omega)) (fun y hy => by
        have := hy.symm.trans h1.2.1
        have e : y = x.at_ := by simpa using this
        rw [e]; have := h1.2.2; omega) h3 hst { x with ph := .move } (by rw [hxx]) (by rw [hxx]) (by rw [hxx]; exact hb) (by simp)
      ⟨⟨ht, h1.2.1, ?_⟩, h2, ?_⟩
    · exact ⟨hgo, [], by rw [List.append_nil]; exact g.log_set hil { H.nd x.after with place := x.turn + 1 } ⟨rfl, rfl, rfl⟩ _⟩
    · show ((H.setN x.after _).nd x.at_).place = x.turn
      rw [nd_setN _ hil]; split
      · rename_i e
        have := g.inj (e ▸ h1.2.1) h2
        omega
      · exact h1.2.2
    · show ((H.setN x.after _).nd x.after).place = x.turn + 1
      rw [nd_setN _ hil, if_pos rfl]
  case move =>
    refine ⟨HG.go g hp _ _ _ (by rw [hxx]) (by rw [hxx]) (by rw [hxx]; exact hb) (.inl (by simp)) g.anns (fun q hq => ?_) ⟨by simp only; omega, by simpa using hx.2.1, hx.2.2⟩, [], by simp; rfl⟩
    show (H.nd (upd H.head p x.after q)).place ≠ 0
    by_cases e : q = p
    · subst e; rw [upd_same, hx.2.2]; omega
    · rw [upd_ne _ _ e]; exact g.heads q hq
  case finish =>
    have hd := g.dn _ hown.1 hx
    refine ⟨HG.go g hp _ _ _ (by rw [hxx]) (by rw [hxx]) (by rw [hxx]; exact hb) (.inr (by rw [hxx]; exact hx)) g.anns g.heads ?_, [], by simp; rfl⟩
    simp only [hd, if_true]
    exact True.intro
end
end Go.Proofs.Ytjfenjnnpikkdaa
/- Layer 15 in plain Lean: what any engine owes, of the list. -/
namespace Go.Proofs.Ytjfenjnnpikkdaa
set_option maxRecDepth 100000
section
variable {n p : Nat} {s : St} {H : HS}

theorem nd_append (H : HS) (v : HNode) (pr : Nat → HProc) (j : Nat) : HS.nd { H with nodes := H.nodes ++ [v], procs := pr } j = if j = H.nodes.length then v else H.nd j := by
  simp only [HS.nd, List.getD_eq_getElem?_getD]
  by_cases e : j = H.nodes.length
  · subst e; simp
  · rw [if_neg e]
    rcases Nat.lt_or_ge j H.nodes.length with h | h
    · rw [List.getElem?_append_left h]
    · rw [List.getElem?_eq_none (by simp; omega), List.getElem?_eq_none (by omega)]
theorem HG.log_invoke (g : HG n s H) (o : Op3) (p : Nat) : HS.log s (H.invoke p o) = H.log s := by
  refine logGo_congr _ _ _ fun x hx => ?_
  have hlt := g.clt x (List.mem_of_mem_drop hx)
  unfold HS.invoke
  rw [nd_append, if_neg (by omega)]
  exact ⟨rfl, rfl, rfl⟩
theorem HG.invoke (g : HG n s H) (hp : p < n) (hb : (H.procs p).ph = .idle) (o : Op3) : HG n s (H.invoke p o) := by
  have hlog := g.log_invoke o p
  have hnd : ∀ j, (H.invoke p o).nd j = if j = H.nodes.length then ⟨p, (H.procs p).many + 1, o, 0, false, ⟨0, [], false, 0⟩, 0⟩ else H.nd j := fun j => nd_append H _ _ j
  have hlen : (H.invoke p o).nodes.length = H.nodes.length + 1 := by simp [HS.invoke]
  have hch : (H.invoke p o).chain = H.chain := rfl
  have hhd : (H.invoke p o).head = H.head := rfl
  have han : (H.invoke p o).ann = H.ann := rfl
  have hpp : (H.invoke p o).procs p = { H.procs p with many := (H.procs p).many + 1, node := H.nodes.length, ph := .announce } := upd_same _ _ _
  have hpq : ∀ q, q ≠ p → (H.invoke p o).procs q = H.procs q := fun q h => upd_ne _ _ h
  have hle : HLe H (H.invoke p o) := ⟨⟨[], by rw [hch]; simp⟩, by omega, fun i hi => by rw [hnd, if_neg (by have := nd_lt hi; omega)], fun i hi hd => by rw [hnd, if_neg (by omega)]; exact hd⟩
  have hcl : 0 < H.nodes.length := g.clt 0 (List.mem_of_getElem? g.c0)
  have hnlen : H.nodes.length ∉ H.chain := fun h => by have := g.clt _ h; omega
  generalize H.invoke p o = H' at *
  have hpl : ∀ j, (H'.nd j).place ≠ 0 → j ≠ H.nodes.length ∧ (H.nd j).place ≠ 0 ∧ (H'.nd j).place = (H.nd j).place := fun j hj => by
    rw [hnd] at hj ⊢
    by_cases e : j = H.nodes.length
    · rw [if_pos e] at hj; exact absurd rfl hj
    · rw [if_neg e] at hj ⊢; exact ⟨e, hj, rfl⟩
  have hdn : ∀ j, (H'.nd j).done = true → j ≠ H.nodes.length ∧ H'.nd j = H.nd j := fun j hj => by
    rw [hnd] at hj ⊢
    by_cases e : j = H.nodes.length
    · rw [if_pos e] at hj; cases hj
    · rw [if_neg e]; exact ⟨e, rfl⟩
  refine ⟨g.npos, by rw [hch]; exact g.c0, by rw [hch]; exact g.nodup, fun x hx => by rw [hlen]; have := g.clt x (by rw [← hch]; exact hx); omega, ?_, fun j hj => ?_, fun j l x y hjl hx hy hyp => ?_, fun j h0 hj => ?_, fun j h0 hj => ?_, ?_, fun l j hl hj => ?_, fun q hq => ?_, fun q hq => by rw [han, hlen]; have := g.anns q hq; omega, by rw [hlog]; exact g.lok, fun q hq => ?_, fun q hq hbq => ?_, fun j h0 h1 h2 => ?_, fun q hq => ?_⟩
  · rw [hnd, if_neg (by omega)]; exact g.p0
  · obtain ⟨h1, h2, h3⟩ := hpl j hj
    rw [hch, h3]; exact g.plc j h2
  · rw [hch] at hx hy
    have h2 := g.pre j l x y hjl hx hy (hpl y hyp).2.1
    rw [hle.pl x h2]; exact h2
  · obtain ⟨h1, h2, h3⟩ := hpl j hj
    exact hle.dn j (nd_lt h2) (g.dn j h0 h2)
  · obtain ⟨h1, h2⟩ := hdn j hj
    rw [h2] at hj
    rw [hch]; exact g.dnc j h0 hj
  · rw [hnd, if_neg (by omega)]; exact g.st0
  · obtain ⟨h1, h2⟩ := hdn j hj
    rw [h2] at hj ⊢
    rw [hlog]
    exact g.stt l j (by rw [← hch]; exact hl) hj
  · rw [hhd, hle.pl _ (g.heads q hq)]; exact g.heads q hq
  · rw [hlog, hch]
    by_cases e : q = p
    · subst e
      have h := g.cnt q hq
      rw [if_neg (fun h => h.1 hb)] at h
      rw [hpp, if_pos ⟨by simp, hnlen⟩]
      simp only
      omega
    · rw [hpq q e]; exact g.cnt q hq
  · by_cases e : q = p
    · subst e
      rw [hpp, hnd, if_pos rfl, hlen]
      exact ⟨hcl, by simp only; omega, rfl, rfl⟩
    · rw [hpq q e] at hbq ⊢
      obtain ⟨a1, a2, a3, a4⟩ := g.own q hq hbq
      rw [hnd, if_neg (by omega), hlen]
      exact ⟨a1, by omega, a3, a4⟩
  · rw [hlen] at h1
    by_cases e : j = H.nodes.length
    · rw [hnd, if_pos e]
      simp only
      rw [hpp]
      exact ⟨hp, by simp, e.symm⟩
    · rw [hnd, if_neg e] at h2 ⊢
      obtain ⟨a1, a2, a3⟩ := g.plq j h0 (by omega) h2
      have hne : (H.nd j).proc ≠ p := fun h => a2 (by rw [h]; exact hb)
      rw [hpq _ hne]
      exact ⟨a1, a2, a3⟩
  · by_cases e : q = p
    · subst e
      rw [hpp]; exact True.intro
    · rw [hpq q e]; exact HPI.mono g.clt hle (g.pi q hq)
/-- What a step does to who is busy, and with what. -/
theorem HS.step_ph (n : Nat) (H : HS) (p q : Nat) (hb : (H.procs p).ph ≠ .idle) : ((H.step n p).1.procs q).many = (H.procs q).many ∧ ((H.step n p).1.procs q).node = (H.procs q).node ∧
    (decide (((H.step n p).1.procs q).ph ≠ .idle) = (decide ((H.procs q).ph ≠ .idle) && !(decide (q = p) && (H.step n p).2.2))) := by
  unfold HS.step
  by_cases e : q = p
  · subst e
    cases hph : (H.procs q).ph <;> simp only [HS.stp, HS.put, HS.setN, upd_same, hph]
    case idle => exact absurd hph hb
    case lookPlace => (refine ⟨?_, ?_, ?_⟩) <;> (split <;> simp) <;> split <;> simp
    case ask => refine ⟨by trivial, by trivial, ?_⟩; split <;> simp
    case offer => refine ⟨by trivial, by trivial, ?_⟩; split <;> simp
    case finish => refine ⟨by trivial, by trivial, ?_⟩; split <;> rename_i h <;> simp [h]
    all_goals simp
  · cases hph : (H.procs p).ph
    case idle => exact absurd hph hb
    all_goals simp only [HS.stp, HS.put, HS.setN, upd_ne _ _ e]; simp [e]
theorem HS.nodes_step (n : Nat) (H : HS) (p : Nat) (j : Nat) : ((H.step n p).1.nd j).op = (H.nd j).op := by
  unfold HS.step
  have hs : ∀ (i : Nat) (v : HNode) (pr : Nat → HProc), v.op = (H.nd i).op → (HS.nd { H.setN i v with procs := pr } j).op = (H.nd j).op := fun i v pr hv => by
    by_cases hi : i < H.nodes.length
    · have e : HS.nd { H.setN i v with procs := pr } j = (H.setN i v).nd j := rfl
      rw [e, nd_setN v hi]
      split
      · rename_i h; subst h; exact hv
      · rfl
    · have e : (H.setN i v).nodes = H.nodes := by simp [HS.setN, List.set_eq_of_length_le (by omega : H.nodes.length ≤ i)]
      show ((H.setN i v).nodes.getD j noNode).op = _
      rw [e]; rfl
  cases hph : (H.procs p).ph <;> simp only [HS.stp] <;> first | rfl | exact hs _ _ _ rfl
end

def heLin (n : Nat) (start : St) : Lin HS where
  n := n
  start := start
  Inv := HG n start
  busy H p := decide ((H.procs p).ph ≠ .idle)
  many H p := (H.procs p).many
  cur H p := (H.nd (H.procs p).node).op
  log H := H.log start
  invoke H p o := H.invoke p o
  step H p := H.step n p
  inv_invoke H p o h hp hb _ := h.invoke hp (by simpa using hb) o
  busy_invoke H p o h hp hb q := by
    by_cases e : q = p
    · subst e; simp [HS.invoke, upd_same]
    · simp [HS.invoke, upd_ne _ _ e, e]
  many_invoke H p o h hp hb q := by
    by_cases e : q = p
    · subst e; simp [HS.invoke, upd_same]
    · simp [HS.invoke, upd_ne _ _ e, e]
  cur_invoke H p o h hp hb q hqn hq := by
    by_cases e : q = p
    · subst e
      rw [if_pos rfl]
      show (HS.nd (H.invoke q o) ((H.invoke q o).procs q).node).op = o
      have e1 : ((H.invoke q o).procs q).node = H.nodes.length := by simp [HS.invoke, upd_same]
      rw [e1]
      unfold HS.invoke
      rw [nd_append, if_pos rfl]
    · rw [if_neg e]
      show (HS.nd (H.invoke p o) ((H.invoke p o).procs q).node).op = (H.nd (H.procs q).node).op
      have e1 : (H.invoke p o).procs q = H.procs q := by simp [HS.invoke, upd_ne _ _ e]
      have hbq : (H.procs q).ph ≠ .idle := by
        have : decide (((H.invoke p o).procs q).ph ≠ .idle) = true := hq
        rw [e1] at this; simpa using this
      rw [e1]
      have := (h.own q hqn hbq).2.1
      unfold HS.invoke
      rw [nd_append, if_neg (by omega)]
  log_invoke H p o h hp hb := h.log_invoke o p
  inv_step H p h hp hb := (h.step_ hp (by simpa using hb)).1
  busy_step H p h hp hb q := (HS.step_ph n H p q (by simpa using hb)).2.2
  many_step H p h hp hb q := (HS.step_ph n H p q (by simpa using hb)).1
  cur_step H p h hp hb q hq := by
    obtain ⟨_, h1, _⟩ := HS.step_ph n H p q (by simpa using hb)
    simp only [h1, HS.nodes_step]
  log_step H p h hp hb := (h.step_ hp (by simpa using hb)).2
  done_step H p h hp hb hd := by
    have hb' : (H.procs p).ph ≠ .idle := by simpa using hb
    have hf : (H.procs p).ph = .finish := by
      unfold HS.step at hd
      cases hph : (H.procs p).ph <;> rw [hph] at hd <;> simp [HS.stp] at hd
    obtain ⟨o1, o2, o3, o4⟩ := h.own p hp hb'
    have hx := h.pi p hp
    unfold HPI at hx
    rw [hf] at hx
    simp only at hx
    have hdn := h.dn _ o1 hx
    have hpl := h.plc _ hx
    have hk1 : (H.nd (H.procs p).node).place - 1 ≠ 0 := fun e => by
      rw [e] at hpl
      have := hpl.symm.trans h.c0
      have : (H.procs p).node = 0 := by simpa using this
      omega
    obtain ⟨k, hk⟩ : ∃ k, (H.nd (H.procs p).node).place - 1 = k + 1 := ⟨(H.nd (H.procs p).node).place - 1 - 1, by omega⟩
    rw [hk] at hpl
    have hst := (h.stt k _ hpl hdn).2
    have hg : (H.log start)[k]? = some ⟨k, (H.nd (H.procs p).node).proc, (H.nd (H.procs p).node).seq, (H.nd (H.procs p).node).op, (stepS (behind start ((H.log start).take k)) (H.nd (H.procs p).node).op).2⟩ := by
      have hd : (H.chain.drop 1)[k]? = some (H.procs p).node := by rw [List.getElem?_drop, Nat.add_comm]; exact hpl
      have := logGo_get H.nd (H.chain.drop 1) 0 start hd
      rw [Nat.zero_add, ← logGo_take] at this
      exact this
    have hlg := (h.step_ hp hb').2
    have e : H.step n p = (H.put p { H.procs p with ph := if (H.nd (H.procs p).node).done = true then .idle else .finish }, (H.nd (H.procs p).node).resp, (H.nd (H.procs p).node).done) := by unfold HS.step; rw [hf]; rfl
    obtain ⟨m, hm⟩ := hlg
    refine ⟨_, by rw [hm]; exact List.mem_append_left _ (List.mem_of_getElem? hg), o3, o4, rfl, ?_⟩
    rw [e]; exact hst.symm
  log_ok H h := h.lok
  log_many H h p hp := by
    have := h.cnt p hp
    split at this <;> omega
  log_idle H h p hp hb := by
    have hb' : (H.procs p).ph = .idle := by simpa using hb
    have := h.cnt p hp
    rw [if_neg (fun h => h.1 hb')] at this
    exact this
  log_cur H h r hr hb hs := by
    have hb' : (H.procs r.proc).ph ≠ .idle := by simpa using hb
    obtain ⟨k, hk⟩ := List.getElem?_of_mem hr
    have hrp := (h.lok.at k r hk).2.1
    obtain ⟨o1, o2, o3, o4⟩ := h.own _ hrp hb'
    have hsq := h.lok.seq_le hk
    have hcn := h.cnt _ hrp
    by_cases hin : (H.procs r.proc).node ∈ H.chain
    · obtain ⟨j, hj⟩ := List.getElem?_of_mem hin
      have hj0 : j ≠ 0 := fun e => by
        subst e
        have := hj.symm.trans h.c0
        have : (H.procs r.proc).node = 0 := by simpa using this
        omega
      obtain ⟨j', rfl⟩ : ∃ j', j = j' + 1 := ⟨j - 1, by omega⟩
      have hd : (H.chain.drop 1)[j']? = some (H.procs r.proc).node := by rw [List.getElem?_drop, Nat.add_comm]; exact hj
      have hg := logGo_get H.nd (H.chain.drop 1) 0 start hd
      have := h.lok.inj hk hg (by simp only; rw [o3]) (by simp only; rw [o4]; exact hs)
      rw [this] at hk
      have e := hk.symm.trans hg
      injection e with e
      have e1 : r.op = (H.nd (H.procs r.proc).node).op := congrArg Rec.op e
      exact e1
    · rw [if_pos ⟨hb', hin⟩] at hcn
      have hs' : r.seq = (H.procs r.proc).many := hs
      omega
end Go.Proofs.Ytjfenjnnpikkdaa
/- Layer 15 in plain Lean: a process that goes on alone ends. -/
namespace Go.Proofs.Ytjfenjnnpikkdaa
set_option maxRecDepth 100000
open Classical in
/-- At which place its node will stand, at the latest. -/
noncomputable def HS.goal (H : HS) (p : Nat) : Nat := if (H.procs p).node ∈ H.chain then H.chain.length else H.chain.length + 1
noncomputable def HS.mu (n : Nat) (H : HS) (p : Nat) : Nat :=
  let x := H.procs p
  match x.ph with
  | .idle => 0
  | .announce => 8 * (H.goal p - 1) + 4 + 2 * n + 1
  | .lookHead => 8 * (H.goal p - 1) + 4 + 2 * (n - x.q)
  | .lookPlace => 8 * (H.goal p - 1) + 4 + 2 * (n - x.q) - 1
  | .take => 8 * (H.goal p - 1) + 4
  | .ask => if (H.nd x.node).place ≠ 0 then 2 else 8 * (H.goal p - x.turn) + 3
  | .offer => 8 * (H.goal p - x.turn) + 2
  | .check => 8 * (H.goal p - x.turn) + 1
  | .swap => 8 * (H.goal p - x.turn)
  | .follow => 8 * (H.goal p - x.turn) - 1
  | .reckon => 8 * (H.goal p - x.turn) - 2
  | .number => 8 * (H.goal p - x.turn) - 3
  | .move => 8 * (H.goal p - x.turn) - 4
  | .finish => 1
section
variable {n p : Nat} {s : St} {H : HS}
theorem HG.goal_le (g : HG n s H) : H.goal p ≤ (H.log s).length + 2 ∧ 1 ≤ H.goal p := by
  have h1 : (H.log s).length = H.chain.length - 1 := by unfold HS.log; rw [logGo_length, List.length_drop]
  have h2 := (List.getElem?_eq_some_iff.1 g.c0).1
  unfold HS.goal
  split <;> omega
/-- Its node, while it does not stand among those up to a place, stands behind it. -/
theorem HG.goal_lt (g : HG n s H) {t : Nat} (ht : t ≤ H.chain.length) (hn : (H.procs p).node ∉ H.chain.take t) : t < H.goal p := by
  unfold HS.goal
  split
  · rename_i h
    rcases Nat.lt_or_ge t H.chain.length with h1 | h1
    · exact h1
    · have e : H.chain.take t = H.chain := List.take_of_length_le h1
      rw [e] at hn; exact absurd h hn
  · omega
theorem goal_same {H H' : HS} (hc : H'.chain = H.chain) (hn : (H'.procs p).node = (H.procs p).node) : H'.goal p = H.goal p := by
  unfold HS.goal; rw [hc, hn]
theorem mu_of {H' : HS} {x' : HProc} (h : H'.procs p = x') : H'.mu n p = (match x'.ph with
  | .idle => 0
  | .announce => 8 * (H'.goal p - 1) + 4 + 2 * n + 1
  | .lookHead => 8 * (H'.goal p - 1) + 4 + 2 * (n - x'.q)
  | .lookPlace => 8 * (H'.goal p - 1) + 4 + 2 * (n - x'.q) - 1
  | .take => 8 * (H'.goal p - 1) + 4
  | .ask => if (H'.nd x'.node).place ≠ 0 then 2 else 8 * (H'.goal p - x'.turn) + 3
  | .offer => 8 * (H'.goal p - x'.turn) + 2
  | .check => 8 * (H'.goal p - x'.turn) + 1
  | .swap => 8 * (H'.goal p - x'.turn)
  | .follow => 8 * (H'.goal p - x'.turn) - 1
  | .reckon => 8 * (H'.goal p - x'.turn) - 2
  | .number => 8 * (H'.goal p - x'.turn) - 3
  | .move => 8 * (H'.goal p - x'.turn) - 4
  | .finish => 1) := by
  unfold HS.mu; rw [h]
theorem HG.mu_step (g : HG n s H) (hp : p < n) (hb : (H.procs p).ph ≠ .idle) (ho : ∀ q, q < n → q ≠ p → (H.procs q).ph = .idle) (hd : (H.step n p).2.2 = false) : (H.step n p).1.mu n p < H.mu n p := by
  have hx := g.pi p hp
  have hown := g.own p hp hb
  unfold HPI at hx
  unfold HS.step at hd ⊢
  rw [mu_of (H' := H) rfl]
  have hgl := (g.goal_le (p := p)).2
  have hgs : ∀ H' : HS, H'.chain = H.chain → (H'.procs p).node = (H.procs p).node → H'.goal p = H.goal p := fun H' h1 h2 => goal_same h1 h2
  cases hph : (H.procs p).ph <;> simp only [hph] at hx hd ⊢ <;> simp only [HS.stp] at hd ⊢
  case idle => exact absurd hph hb
  case announce =>
    rw [mu_of (upd_same _ _ _), hgs]
    rotate_left
    · rfl
    · simp [HS.put, HS.setN, upd_same]
    simp only; omega
  case lookHead =>
    rw [mu_of (upd_same _ _ _), hgs]
    rotate_left
    · rfl
    · simp [HS.put, HS.setN, upd_same]
    have := hx.1
    simp only; omega
  case lookPlace =>
    have hq := hx.1.1
    rw [mu_of (upd_same _ _ _), hgs]
    rotate_left
    · rfl
    · simp only [HS.put, upd_same]; split <;> rfl
    by_cases c : (H.procs p).q + 1 < n
    · simp only [c, if_true]; omega
    · simp only [c, if_false]; omega
  case take =>
    have ht := hx.1
    rw [mu_of (upd_same _ _ _), hgs]
    rotate_left
    · rfl
    · simp [HS.put, HS.setN, upd_same]
    simp only
    split <;> omega
  case ask =>
    rw [mu_of (upd_same _ _ _), hgs]
    rotate_left
    · rfl
    · simp [HS.put, HS.setN, upd_same]
    by_cases c : (H.nd (H.procs p).node).place = 0
    · simp [c]
    · simp [c]
  case offer =>
    rw [mu_of (upd_same _ _ _), hgs]
    rotate_left
    · rfl
    · simp [HS.put, HS.setN, upd_same]
    by_cases c : H.ann ((H.procs p).turn % n) = 0 ∨ H.ann ((H.procs p).turn % n) = (H.procs p).node
    · simp only [c, if_true]; omega
    · simp only [c, if_false]; omega
  case check =>
    rw [mu_of (upd_same _ _ _), hgs]
    rotate_left
    · rfl
    · simp [HS.put, HS.setN, upd_same]
    simp only; omega
  case swap =>
    obtain ⟨h1, h2, h3, h4, h5⟩ := hx
    have hlt := g.goal_lt h1.len h5
    have ht := h1.1
    rw [mu_of (upd_same _ _ _)]
    by_cases c : nextOf H.chain (H.procs p).at_ = 0
    · have hl : H.chain.length = (H.procs p).turn := by
        apply Classical.byContradiction; intro hne
        have hlen := h1.len
        obtain ⟨y, hy⟩ : ∃ y, H.chain[(H.procs p).turn - 1 + 1]? = some y := ⟨_, List.getElem?_eq_getElem (by omega)⟩
        have e := nextOf_some g.nodup h1.2.1 hy
        rw [c] at e
        subst e
        have := g.inj hy g.c0; omega
      rw [← hl, List.take_length] at h2 h5
      obtain ⟨o1, o2, o3⟩ := g.out _ h3 h4 h2
      have hpp : (H.nd (H.procs p).prefer).proc = p := Classical.byContradiction fun e => o2 (ho _ o1 e)
      rw [hpp] at o3
      have e1 : HS.goal (HS.put { H with chain := if nextOf H.chain (H.procs p).at_ = 0 then H.chain ++ [(H.procs p).prefer] else H.chain } p { H.procs p with ph := .follow }) p = H.goal p := by
        unfold HS.goal
        simp only [HS.put, upd_same, c, if_true, ← o3]
        simp [h5]
      rw [e1]
      simp only; omega
    · rw [hgs]
      rotate_left
      · simp [HS.put, c]
      · simp [HS.put, upd_same]
      simp only; omega
  case follow =>
    have hle : H.chain.length ≤ H.goal p := by unfold HS.goal; split <;> omega
    have := hx.2
    rw [mu_of (upd_same _ _ _), hgs]
    rotate_left
    · rfl
    · simp [HS.put, HS.setN, upd_same]
    simp only; omega
  case reckon =>
    have hle : H.chain.length ≤ H.goal p := by unfold HS.goal; split <;> omega
    have := (List.getElem?_eq_some_iff.1 hx.2).1
    rw [mu_of (upd_same _ _ _), hgs]
    rotate_left
    · rfl
    · simp [HS.put, HS.setN, upd_same]
    simp only; omega
  case number =>
    have hle : H.chain.length ≤ H.goal p := by unfold HS.goal; split <;> omega
    have := (List.getElem?_eq_some_iff.1 hx.2.1).1
    rw [mu_of (upd_same _ _ _), hgs]
    rotate_left
    · rfl
    · simp [HS.put, HS.setN, upd_same]
    simp only; omega
  case move =>
    have hle : H.chain.length ≤ H.goal p := by unfold HS.goal; split <;> omega
    have := (List.getElem?_eq_some_iff.1 hx.2.1).1
    rw [mu_of (upd_same _ _ _), hgs]
    rotate_left
    · rfl
    · simp [HS.put, HS.setN, upd_same]
    simp only
    split <;> omega
  case finish =>
    have := g.dn _ hown.1 hx
    rw [this] at hd; cases hd
end
def heSB (n l : Nat) : Nat := 8 * (l + 1) + 2 * n + 5
theorem heSB_le {n l : Nat} (hn : n ≤ 64) (hl : l ≤ 60) : heSB n l ≤ 9000 := by unfold heSB; omega
noncomputable def heSolo (n : Nat) (start : St) : SoloIf (heLin n start) (heSB n) where
  mu H p := H.mu n p
  mu_le H p h hp hb _ := by
    show H.mu n p ≤ 8 * ((H.log start).length + 1) + 2 * n + 5
    have hg := HG.goal_le (p := p) h
    have hx := h.pi p hp
    unfold HPI at hx
    rw [mu_of (H' := H) rfl]
    cases hph : (H.procs p).ph <;> simp only [hph] at hx ⊢
    case lookHead => omega
    case lookPlace => omega
    case announce => omega
    case ask =>
      have := hx.1
      split <;> omega
    all_goals first | omega | (have := hx.1.1; omega)
  mu_step H p h hp hb ho hd := HG.mu_step h hp (by simpa [heLin] using hb) (fun q hq hne => by have := ho q hq hne; simpa [heLin] using this) hd
end Go.Proofs.Ytjfenjnnpikkdaa
