/-
  Shared objects in plain Lean: logs, and what any engine owes its callers.
-/
import Derived.Test.YtjfenjnnpikkdaaKa
import Derived.Test.YtjfenjnnpikkdaaKad
import Derived.Test.YtjfenjnnpikkdaaKb
set_option linter.unusedVariables false
set_option linter.unusedSimpArgs false
namespace Go.Proofs.Ytjfenjnnpikkdaa
set_option maxRecDepth 100000

/-- A record of a log. -/
structure Rec where
  index : Nat
  proc : Nat
  seq : Nat
  op : Op3
  resp : Int
  deriving DecidableEq

def upd {α : Type} (f : Nat → α) (p : Nat) (v : α) : Nat → α := fun q => if q = p then v else f q
theorem upd_same {α : Type} (f : Nat → α) (p : Nat) (v : α) : upd f p v p = v := by simp [upd]
theorem upd_ne {α : Type} (f : Nat → α) {p q : Nat} (v : α) (h : q ≠ p) : upd f p v q = f q := by simp [upd, h]

/-- The state behind the records of a log. -/
def behind (s : St) : List Rec → St
  | [] => s
  | r :: l => behind (stepS s r.op).1 l
theorem behind_append (s : St) : ∀ (l m : List Rec), behind s (l ++ m) = behind (behind s l) m := by
  intro l
  induction l generalizing s with
  | nil => intro m; rfl
  | cons r l ih => intro m; exact ih _ m
theorem behind_snoc (s : St) (l : List Rec) (r : Rec) : behind s (l ++ [r]) = (stepS (behind s l) r.op).1 := by
  rw [behind_append]; rfl
/-- How many records a process has. -/
def countL (l : List Rec) (p : Nat) : Nat := (l.filter fun r => r.proc == p).length
theorem countL_snoc (l : List Rec) (r : Rec) (p : Nat) : countL (l ++ [r]) p = countL l p + if r.proc = p then 1 else 0 := by
  unfold countL
  by_cases h : r.proc = p <;> simp [h]
theorem countL_append (l m : List Rec) (p : Nat) : countL (l ++ m) p = countL l p + countL m p := by
  unfold countL; simp
theorem countL_take (l : List Rec) (p : Nat) {j k : Nat} (h : j ≤ k) : countL (l.take j) p ≤ countL (l.take k) p := by
  have e : l.take j = (l.take k).take j := by rw [List.take_take, Nat.min_eq_left h]
  rw [e]
  unfold countL
  exact ((List.take_sublist j (l.take k)).filter _).length_le

/-- A log as it may be: its indices, each process's numbers, the answers. -/
inductive LogOK (n : Nat) (s : St) : List Rec → Prop
  | nil : LogOK n s []
  | snoc {l : List Rec} {r : Rec} : LogOK n s l → r.index = l.length → r.proc < n → r.seq = countL l r.proc + 1 → r.resp = (stepS (behind s l) r.op).2 → LogOK n s (l ++ [r])

theorem LogOK.at {n : Nat} {s : St} {l : List Rec} (h : LogOK n s l) : ∀ k r, l[k]? = some r → r.index = k ∧ r.proc < n ∧ r.seq = countL (l.take k) r.proc + 1 ∧ r.resp = (stepS (behind s (l.take k)) r.op).2 := by
  induction h with
  | nil => intro k r hk; simp at hk
  | @snoc l r h h1 h2 h3 h4 ih =>
    intro k q hk
    by_cases hlt : k < l.length
    · rw [List.getElem?_append_left hlt] at hk
      rw [List.take_append_of_le_length (by omega)]
      exact ih k q hk
    · have he : k = l.length := by
        have := (List.getElem?_eq_some_iff.1 hk).1
        simp at this; omega
      subst he
      have hq : r = q := by simpa using hk
      subst hq
      rw [List.take_left]
      exact ⟨h1, h2, h3, h4⟩
theorem LogOK.seq_le {n : Nat} {s : St} {l : List Rec} (h : LogOK n s l) {k : Nat} {r : Rec} (hk : l[k]? = some r) : 1 ≤ r.seq ∧ r.seq ≤ countL l r.proc := by
  have h1 := (h.at k r hk).2.2.1
  have hlt := (List.getElem?_eq_some_iff.1 hk).1
  have h2 : countL (l.take (k + 1)) r.proc = countL (l.take k) r.proc + 1 := by
    have e : l.take (k + 1) = l.take k ++ [r] := by
      rw [List.take_succ_eq_append_getElem hlt]
      congr 2
      exact (List.getElem?_eq_some_iff.1 hk).2
    rw [e, countL_snoc, if_pos rfl]
  have h3 := countL_take l r.proc (show k + 1 ≤ l.length by omega)
  rw [List.take_length] at h3
  omega
/-- Two records of one process with one number are one. -/
theorem LogOK.inj {n : Nat} {s : St} {l : List Rec} (h : LogOK n s l) {j k : Nat} {q r : Rec} (hj : l[j]? = some q) (hk : l[k]? = some r) (hp : q.proc = r.proc) (hs : q.seq = r.seq) : j = k := by
  have key : ∀ {j k : Nat} {q r : Rec}, l[j]? = some q → l[k]? = some r → q.proc = r.proc → j < k → q.seq < r.seq := by
    intro j k q r hj hk hp hlt
    have h1 := (h.at j q hj).2.2.1
    have h2 := (h.at k r hk).2.2.1
    have hjl := (List.getElem?_eq_some_iff.1 hj).1
    have e : l.take (j + 1) = l.take j ++ [q] := by
      rw [List.take_succ_eq_append_getElem hjl]
      congr 2
      exact (List.getElem?_eq_some_iff.1 hj).2
    have h3 : countL (l.take (j + 1)) q.proc = countL (l.take j) q.proc + 1 := by rw [e, countL_snoc, if_pos rfl]
    have h4 := countL_take l q.proc (show j + 1 ≤ k by omega)
    rw [← hp] at h2
    omega
  rcases Nat.lt_trichotomy j k with h1 | h1 | h1
  · have := key hj hk hp h1; omega
  · exact h1
  · have := key hk hj hp.symm h1; omega
theorem LogOK.has {n : Nat} {s : St} {l : List Rec} (h : LogOK n s l) (p : Nat) : ∀ m, 1 ≤ m → m ≤ countL l p → ∃ (k : Nat) (r : Rec), l[k]? = some r ∧ r.proc = p ∧ r.seq = m := by
  induction h with
  | nil => intro m h1 h2; simp [countL] at h2; omega
  | @snoc l r h h1 h2 h3 h4 ih =>
    intro m hm1 hm2
    rw [countL_snoc] at hm2
    by_cases hle : m ≤ countL l p
    · obtain ⟨k, q, hk, e1, e2⟩ := ih m hm1 hle
      exact ⟨k, q, by rw [List.getElem?_append_left ((List.getElem?_eq_some_iff.1 hk).1)]; exact hk, e1, e2⟩
    · by_cases hp : r.proc = p
      · rw [if_pos hp] at hm2
        refine ⟨l.length, r, by simp, hp, ?_⟩
        rw [h3, hp]; omega
      · rw [if_neg hp] at hm2; omega

/-- An object that processes share, as its callers see it. -/
structure Lin (σ : Type) where
  n : Nat
  start : St
  Inv : σ → Prop
  busy : σ → Nat → Bool
  many : σ → Nat → Nat
  cur : σ → Nat → Op3
  log : σ → List Rec
  invoke : σ → Nat → Op3 → σ
  step : σ → Nat → σ × Int × Bool
  inv_invoke : ∀ s p o, Inv s → p < n → busy s p = false → fitsB o = true → Inv (invoke s p o)
  busy_invoke : ∀ s p o, Inv s → p < n → busy s p = false → ∀ q, busy (invoke s p o) q = (busy s q || decide (q = p))
  many_invoke : ∀ s p o, Inv s → p < n → busy s p = false → ∀ q, many (invoke s p o) q = many s q + if q = p then 1 else 0
  cur_invoke : ∀ s p o, Inv s → p < n → busy s p = false → ∀ q, q < n → busy (invoke s p o) q = true → cur (invoke s p o) q = if q = p then o else cur s q
  log_invoke : ∀ s p o, Inv s → p < n → busy s p = false → log (invoke s p o) = log s
  inv_step : ∀ s p, Inv s → p < n → busy s p = true → Inv (step s p).1
  busy_step : ∀ s p, Inv s → p < n → busy s p = true → ∀ q, busy (step s p).1 q = (busy s q && !(decide (q = p) && (step s p).2.2))
  many_step : ∀ s p, Inv s → p < n → busy s p = true → ∀ q, many (step s p).1 q = many s q
  cur_step : ∀ s p, Inv s → p < n → busy s p = true → ∀ q, busy (step s p).1 q = true → cur (step s p).1 q = cur s q
  log_step : ∀ s p, Inv s → p < n → busy s p = true → ∃ m, log (step s p).1 = log s ++ m
  done_step : ∀ s p, Inv s → p < n → busy s p = true → (step s p).2.2 = true → ∃ r ∈ log (step s p).1, r.proc = p ∧ r.seq = many s p ∧ r.op = cur s p ∧ r.resp = (step s p).2.1
  log_ok : ∀ s, Inv s → LogOK n start (log s)
  log_many : ∀ s, Inv s → ∀ p, p < n → countL (log s) p ≤ many s p ∧ many s p ≤ countL (log s) p + 1
  log_idle : ∀ s, Inv s → ∀ p, p < n → busy s p = false → countL (log s) p = many s p
  log_cur : ∀ s, Inv s → ∀ r ∈ log s, busy s r.proc = true → r.seq = many s r.proc → r.op = cur s r.proc
end Go.Proofs.Ytjfenjnnpikkdaa
/- Layer 16 in plain Lean: copies that one swaps for all; what holds behind any steps. -/
namespace Go.Proofs.Ytjfenjnnpikkdaa
set_option maxRecDepth 100000

structure Asked where
  proc : Nat
  many : Nat
  op : Op3
  deriving DecidableEq
structure Ver where
  st : St
  last : Nat → Nat
  resp : Nat → Int
  log : List Rec
inductive Ph | idle | announce | load | scan | swap | finish
  deriving DecidableEq
structure Pr where
  own : Nat
  many : Nat
  ph : Ph
  tries : Nat
  q : Nat
  seen : Nat
  todo : List Nat
structure PS where
  annv : Nat → Nat
  rootv : Nat
  procs : Nat → Pr
  asked : List Asked
  vers : List Ver

def noAsked : Asked := ⟨0, 0, ⟨0, 0, 0⟩⟩
def noVer : Ver := ⟨⟨0, [], false, 0⟩, fun _ => 0, fun _ => 0, []⟩
def PS.ask (E : PS) (a : Nat) : Asked := E.asked.getD a noAsked
def PS.ver (E : PS) (i : Nat) : Ver := E.vers.getD i noVer
def PS.now (E : PS) : Ver := E.ver E.rootv

def Ver.one (A : Nat → Asked) (v : Ver) (a : Nat) : Ver :=
  { st := (stepS v.st (A a).op).1, last := upd v.last (A a).proc a, resp := upd v.resp (A a).proc (stepS v.st (A a).op).2,
    log := v.log ++ [⟨v.log.length, (A a).proc, (A a).many, (A a).op, (stepS v.st (A a).op).2⟩] }
def Ver.all (A : Nat → Asked) (v : Ver) (l : List Nat) : Ver := l.foldl (Ver.one A) v

def PS.new (start : St) : PS := ⟨fun _ => 0, 0, fun _ => ⟨0, 0, .idle, 0, 0, 0, []⟩, [noAsked], [⟨start, fun _ => 0, fun _ => 0, []⟩]⟩
def PS.invoke (E : PS) (p : Nat) (o : Op3) : PS :=
  { E with procs := upd E.procs p { E.procs p with many := (E.procs p).many + 1, own := E.asked.length, ph := .announce }, asked := E.asked ++ [⟨p, (E.procs p).many + 1, o⟩] }
def PS.announce (E : PS) (p : Nat) : PS :=
  { E with annv := upd E.annv p (E.procs p).own, procs := upd E.procs p { E.procs p with tries := 0, ph := .load } }
def PS.load (E : PS) (p : Nat) : PS :=
  { E with procs := upd E.procs p { E.procs p with seen := E.rootv, q := 0, todo := [], ph := .scan } }
def PS.scan (n : Nat) (E : PS) (p : Nat) : PS :=
  let x := E.procs p
  let a := E.annv x.q
  { E with procs := upd E.procs p { x with todo := if a = (E.ver x.seen).last x.q then x.todo else x.todo ++ [a], q := x.q + 1, ph := if x.q + 1 < n then .scan else .swap } }
def PS.swap (E : PS) (p : Nat) : PS :=
  let x := E.procs p
  { E with vers := E.vers ++ [(E.ver x.seen).all E.ask x.todo], rootv := if E.rootv = x.seen then E.vers.length else E.rootv,
           procs := upd E.procs p { x with tries := x.tries + 1, ph := if x.tries + 1 < 2 then .load else .finish } }
def PS.finish (E : PS) (p : Nat) : PS := { E with procs := upd E.procs p { E.procs p with ph := .idle } }
/-- A step of a process that is busy. -/
def PS.step (n : Nat) (E : PS) (p : Nat) : PS × Int × Bool :=
  match (E.procs p).ph with
  | .idle => (E, 0, false)
  | .announce => (E.announce p, 0, false)
  | .load => (E.load p, 0, false)
  | .scan => (E.scan n p, 0, false)
  | .swap => (E.swap p, 0, false)
  | .finish => (E.finish p, E.now.resp p, true)

/-- A copy as it may be: A tells what was asked for, m how much. -/
structure VerOK (n : Nat) (start : St) (A : Nat → Asked) (m : Nat) (v : Ver) : Prop where
  log : LogOK n start v.log
  st : v.st = behind start v.log
  lt : ∀ p, v.last p < m
  count : ∀ p, p < n → countL v.log p = (A (v.last p)).many
  proc : ∀ p, p < n → v.last p ≠ 0 → (A (v.last p)).proc = p
  last : ∀ p, p < n → v.last p ≠ 0 → ∃ r ∈ v.log, r.proc = p ∧ r.seq = (A (v.last p)).many ∧ r.op = (A (v.last p)).op ∧ r.resp = v.resp p
  recs : ∀ r ∈ v.log, ∃ a, a ≠ 0 ∧ a < m ∧ A a = ⟨r.proc, r.seq, r.op⟩

theorem VerOK.mono {n : Nat} {start : St} {A B : Nat → Asked} {m m' : Nat} {v : Ver} (h : VerOK n start A m v) (hm : m ≤ m') (hA : ∀ a, a < m → B a = A a) : VerOK n start B m' v := by
  have e : ∀ p, B (v.last p) = A (v.last p) := fun p => hA _ (h.lt p)
  refine ⟨h.log, h.st, fun p => Nat.lt_of_lt_of_le (h.lt p) hm, fun p hp => by rw [e]; exact h.count p hp, fun p hp h0 => by rw [e]; exact h.proc p hp h0, fun p hp h0 => by rw [e]; exact h.last p hp h0, ?_⟩
  intro r hr
  obtain ⟨a, h1, h2, h3⟩ := h.recs r hr
  exact ⟨a, h1, Nat.lt_of_lt_of_le h2 hm, by rw [hA a h2, h3]⟩

/-- One operation more, that is the next one of its process. -/
theorem VerOK.one {n : Nat} {start : St} {A : Nat → Asked} {m : Nat} {v : Ver} (h : VerOK n start A m v) {a : Nat} (ha : a ≠ 0) (hm : a < m) (hp : (A a).proc < n) (hn : (A a).many = (A (v.last (A a).proc)).many + 1) : VerOK n start A m (v.one A a) := by
  have hlog : LogOK n start (v.one A a).log := by
    unfold Ver.one
    refine .snoc h.log rfl hp ?_ ?_
    · simp only; rw [h.count _ hp, hn]
    · simp only; rw [h.st]
  refine ⟨hlog, ?_, ?_, ?_, ?_, ?_, ?_⟩
  · unfold Ver.one; simp only; rw [behind_snoc, h.st]
  · intro p; unfold Ver.one upd; simp only; split
    · exact hm
    · exact h.lt p
  · intro p hpn
    unfold Ver.one; simp only
    rw [countL_snoc]
    by_cases e : p = (A a).proc
    · subst e
      rw [upd_same, if_pos rfl, h.count _ hpn, hn]
    · rw [upd_ne _ _ e, if_neg (fun e' => e e'.symm), h.count p hpn]; rfl
  · intro p hpn h0
    unfold Ver.one at h0 ⊢; simp only at h0 ⊢
    by_cases e : p = (A a).proc
    · subst e; rw [upd_same]
    · rw [upd_ne _ _ e] at h0 ⊢; exact h.proc p hpn h0
  · intro p hpn h0
    unfold Ver.one at h0 ⊢; simp only at h0 ⊢
    by_cases e : p = (A a).proc
    · subst e
      rw [upd_same, upd_same]
      exact ⟨⟨v.log.length, (A a).proc, (A a).many, (A a).op, (stepS v.st (A a).op).2⟩, List.mem_append_right _ (by simp), rfl, rfl, rfl, rfl⟩
    · rw [upd_ne _ _ e] at h0 ⊢
      rw [upd_ne _ _ e]
      obtain ⟨r, hr, h1⟩ := h.last p hpn h0
      exact ⟨r, by simp [hr], h1⟩
  · intro r hr
    unfold Ver.one at hr
    simp only [List.mem_append, List.mem_singleton] at hr
    rcases hr with hr | rfl
    · exact h.recs r hr
    · exact ⟨a, ha, hm, rfl⟩

/-- What is done of a list: of processes that rise, each the next of its own. -/
structure TodoOK (n : Nat) (A : Nat → Asked) (m q : Nat) (l : List Nat) : Prop where
  ne : ∀ a ∈ l, a ≠ 0 ∧ a < m ∧ (A a).proc < q
  up : l.Pairwise fun a b => (A a).proc < (A b).proc
theorem all_log {A : Nat → Asked} {l : List Nat} : ∀ {v : Ver}, ∃ t, (v.all A l).log = v.log ++ t := by
  induction l with
  | nil => intro v; exact ⟨[], by simp [Ver.all]⟩
  | cons b l ih =>
    intro v
    obtain ⟨t, ht⟩ := ih (v := v.one A b)
    refine ⟨⟨v.log.length, (A b).proc, (A b).many, (A b).op, (stepS v.st (A b).op).2⟩ :: t, ?_⟩
    unfold Ver.all at ht ⊢
    rw [List.foldl_cons, ht]
    unfold Ver.one
    simp
theorem VerOK.all {n : Nat} {start : St} {A : Nat → Asked} {m : Nat} : ∀ {l : List Nat} {v : Ver}, VerOK n start A m v → TodoOK n A m n l → (∀ a ∈ l, (A a).many = (A (v.last (A a).proc)).many + 1) → VerOK n start A m (v.all A l)
  | [], v, h, _, _ => h
  | b :: l, v, h, ht, hl => by
    have hb := ht.ne b (by simp)
    have hp := List.pairwise_cons.1 ht.up
    refine VerOK.all (v := v.one A b) (h.one hb.1 hb.2.1 hb.2.2 (hl b (by simp))) ⟨fun a ha => ht.ne a (List.mem_cons_of_mem _ ha), hp.2⟩ ?_
    intro a ha
    have := hp.1 a ha
    unfold Ver.one; simp only
    rw [upd_ne _ _ (by omega)]
    exact hl a (List.mem_cons_of_mem _ ha)
end Go.Proofs.Ytjfenjnnpikkdaa
/- Package psim: how its object lies in memory. -/
namespace Go.Proofs.Ytjfenjnnpikkdaa
set_option maxRecDepth 100000
open Go.RowKit

/-- Whose a block is. -/
inductive Tag | eng | mach | proc (p : Nat) | imm
  deriving DecidableEq

structure PRef where
  bm : Nat
  vc : Value
  vs : Value
  steps : List Int
  vp : Value
  va : Value
  vv : Value
  pa : Nat → Nat
  pt : Nat → Value
  bef : Nat → Int
  ver : Nat → Nat
  own : Nat → Option Tag

abbrev ptrV (b : Nat) : Value := .pointer (some ⟨b, 0, none⟩)
def natI (l : List Nat) : List Int := l.map fun (a : Nat) => (a : Int)
def askedV (a : Asked) : List Value := [.int .i64 a.proc, .int .i64 a.many, .int .i64 a.op.code, .int .i64 a.op.a, .int .i64 a.op.b]
def recV (r : Rec) : List Value := [.int .i64 r.index, .int .i64 r.proc, .int .i64 r.seq, .int .i64 r.op.code, .int .i64 r.op.a, .int .i64 r.op.b, .int .i64 r.resp]
abbrev bound (f : FuncId) (b : Nat) : Value := .func (Fn.func f) #[ptrV b] #[]
def phV (b : Nat) : Ph → Value
  | .idle => .nilFunc
  | .announce => bound 51 b
  | .load => bound 70 b
  | .scan => bound 82 b
  | .swap => bound 90 b
  | .finish => bound 95 b
abbrev procV (be p : Nat) (x : Pr) (b : Int) (f vt : Value) : Array Value :=
  #[ptrV be, .int .i64 p, .int .i64 x.own, .int .i64 x.many, .int .i64 b, f, .int .i64 x.tries, .int .i64 x.q, .int .i64 x.seen, vt]
abbrev engV (R : PRef) (n : Nat) : Array Value := #[ptrV R.bm, .int .i64 0, .int .i64 n, R.vp, R.va, R.vv]
def cellsP (n : Nat) (E : PS) : List Int := ((List.range n).map fun p => (E.annv p : Int)) ++ [(E.rootv : Int)]
abbrev rangeI (n : Nat) (f : Nat → Int) : List Value := ints ((List.range n).map f)

theorem rd_keeps {F : Nat → Prop} {w w' : World} {v : Value} {xs : List Int} (h : Rd w v xs) (k : Keeps F w w') (hd : 0 < xs.length → ∀ b, v.ownBlock = some b → ¬ F b) : Rd w' v xs := by
  obtain ⟨a, c, rfl, h1, h2, h3⟩ := h
  refine ⟨a, c, rfl, h1, h2, fun hl => ?_⟩
  obtain ⟨b, o, e2, hlt, hc⟩ := h3 hl
  refine ⟨b, o, e2, Nat.lt_of_lt_of_le hlt k.size, fun i hi => k.cellSome (hd hl b ?_) (hc i hi)⟩
  rw [e2]
  rfl
theorem rd_block {w : World} {v : Value} {xs : List Int} (h : Rd w v xs) (h0 : 0 < xs.length) : ∀ k, v.ownBlock = some k → k < w.heap.size := by
  intro k hk
  obtain ⟨a, c, rfl, _, _, h3⟩ := h
  obtain ⟨b, o, rfl, hb, _⟩ := h3 h0
  simp [Value.ownBlock] at hk
  omega
/-- A copy in memory. -/
def VRep (w : World) (base : Nat) (own : Nat → Option Tag) (n b : Nat) (v : Ver) : Prop :=
  own b = some .imm ∧ ∃ vL vl vr vg, Blk w b #[.int .i64 v.st.kind, vL, .bool v.st.isSealed, .int .i64 v.st.to, vl, vr, vg] 84 ∧
    (Rd w vL v.st.L ∧ (0 < v.st.L.length → ∀ k, vL.ownBlock = some k → own k = some .imm ∨ k < base)) ∧
    (Own w 3 1 vl n (rangeI n fun q => (v.last q : Int)) ∧ ∀ k, vl.ownBlock = some k → own k = some .imm) ∧
    (Own w 3 1 vr n (rangeI n v.resp) ∧ ∀ k, vr.ownBlock = some k → own k = some .imm) ∧
    (Own w 39 7 vg v.log.length (v.log.flatMap recV) ∧ ∀ k, vg.ownBlock = some k → own k = some .imm)
theorem VRep.keeps {w w' : World} {base n b : Nat} {own own' : Nat → Option Tag} {v : Ver} {F : Nat → Prop} (h : VRep w base own n b v) (k : Keeps F w w') (hF : ∀ k, F k → own k ≠ some .imm ∧ base ≤ k) (ho : ∀ k, own k = some .imm → own' k = some .imm) : VRep w' base own' n b v := by
  obtain ⟨h0, vL, vl, vr, vg, h1, ⟨h2, h2'⟩, ⟨h3, h3'⟩, ⟨h4, h4'⟩, h5, h5'⟩ := h
  refine ⟨ho _ h0, vL, vl, vr, vg, h1.keeps k (fun hf => (hF _ hf).1 h0), ⟨rd_keeps h2 k ?_, fun h0 q hq => (h2' h0 q hq).imp (ho q) id⟩, ⟨own_keeps h3 k (fun q hq hf => (hF q hf).1 (h3' q hq)), fun q hq => ho q (h3' q hq)⟩,
    ⟨own_keeps h4 k (fun q hq hf => (hF q hf).1 (h4' q hq)), fun q hq => ho q (h4' q hq)⟩, own_keeps h5 k (fun q hq hf => (hF q hf).1 (h5' q hq)), fun q hq => ho q (h5' q hq)⟩
  intro h0 q hq hf
  rcases h2' h0 q hq with g | g
  · exact (hF q hf).1 g
  · have := (hF q hf).2; omega

/-- A process in memory. -/
structure XRep (w : World) (own : Nat → Option Tag) (be b p : Nat) (x : Pr) (bf : Int) (vt : Value) : Prop where
  tag : own b = some (.proc p)
  blk : Blk w b (procV be p x bf (phV b x.ph) vt) 81
  todo : Own w 3 1 vt x.todo.length (ints (natI x.todo))
  todoT : ∀ k, vt.ownBlock = some k → own k = some (.proc p)
theorem XRep.keeps {w w' : World} {be b p : Nat} {own own' : Nat → Option Tag} {x : Pr} {bf : Int} {vt : Value} {F : Nat → Prop} (h : XRep w own be b p x bf vt) (k : Keeps F w w') (hF : ∀ k, F k → own k ≠ some (.proc p)) (ho : ∀ k, own k = some (.proc p) → own' k = some (.proc p)) : XRep w' own' be b p x bf vt :=
  ⟨ho _ h.tag, h.blk.keeps k (fun hf => hF _ hf h.tag), own_keeps h.todo k (fun q hq hf => hF q hf (h.todoT q hq)), fun q hq => ho q (h.todoT q hq)⟩

structure PRep (w : World) (base be : Nat) (R : PRef) (n : Nat) (E : PS) : Prop where
  small : 0 < n ∧ n ≤ 64
  fresh : ∀ k, R.own k ≠ none → base ≤ k ∧ k < w.heap.size
  eng : Blk w be (engV R n) 76
  engT : R.own be = some .eng
  mach : Mach w R.bm R.vc R.vs ⟨cellsP n E, R.steps⟩
  machT : ∀ k, machF R.bm R.vc R.vs k → R.own k = some .mach
  procs : Own w 78 1 R.vp n ((List.range n).map fun p => ptrV (R.pa p))
  procsT : ∀ k, R.vp.ownBlock = some k → R.own k = some .eng
  proc : ∀ p, p < n → XRep w R.own be (R.pa p) p (E.procs p) (R.bef p) (R.pt p)
  asked : Own w 91 5 R.va E.asked.length (E.asked.flatMap askedV)
  askedT : ∀ k, R.va.ownBlock = some k → R.own k = some .eng
  vers : Own w 82 1 R.vv E.vers.length ((List.range E.vers.length).map fun i => ptrV (R.ver i))
  versT : ∀ k, R.vv.ownBlock = some k → R.own k = some .eng
  ver : ∀ i, i < E.vers.length → VRep w base R.own n (R.ver i) (E.ver i)

section
variable {w w' : World} {base be n p : Nat} {R : PRef} {E : PS}
/-- What touches none of its blocks leaves it as it is. -/
theorem PRep.keeps {F : Nat → Prop} (h : PRep w base be R n E) (k : Keeps F w w') (hF : ∀ k, F k → R.own k = none ∧ base ≤ k) : PRep w' base be R n E := by
  have hne : ∀ k, R.own k ≠ none → ¬ F k := fun k hk hf => hk (hF k hf).1
  have hs : ∀ {t : Tag} {k}, R.own k = some t → ¬ F k := fun hk => hne _ (by rw [hk]; simp)
  exact ⟨h.small, fun q hq => ⟨(h.fresh q hq).1, Nat.lt_of_lt_of_le (h.fresh q hq).2 k.size⟩, h.eng.keeps k (hs h.engT), h.engT, h.mach.keeps k (fun q hq => hs (h.machT q hq)), h.machT, own_keeps h.procs k (fun q hq => hs (h.procsT q hq)), h.procsT,
    fun q hq => (h.proc q hq).keeps k (fun j hj => by rw [(hF j hj).1]; simp) (fun _ e => e), own_keeps h.asked k (fun q hq => hs (h.askedT q hq)), h.askedT, own_keeps h.vers k (fun q hq => hs (h.versT q hq)), h.versT,
    fun i hi => (h.ver i hi).keeps k (fun j hj => ⟨by rw [(hF j hj).1]; simp, (hF j hj).2⟩) (fun _ e => e)⟩

/-- A step of a process: its own blocks and the machine are turned; a new row may be its. -/
theorem PRep.turn (h : PRep w base be R n E) (hp : p < n) {F : Nat → Prop} (k : Keeps F w w') (hF : ∀ k, F k → R.own k = some .mach ∨ R.own k = some (.proc p))
    (own' : Nat → Option Tag) (ho : ∀ k, k < w.heap.size → own' k = R.own k) (hn : ∀ k, w.heap.size ≤ k → own' k ≠ none → own' k = some (.proc p) ∧ k < w'.heap.size)
    (annv : Nat → Nat) (rootv : Nat) (steps : List Int) (hM : Mach w' R.bm R.vc R.vs ⟨cellsP n { E with annv := annv, rootv := rootv }, steps⟩)
    (x : Pr) (bf : Int) (vt : Value) (hX : XRep w' own' be (R.pa p) p x bf vt) :
    PRep w' base be { R with own := own', steps := steps, pt := upd R.pt p vt, bef := upd R.bef p bf } n { E with annv := annv, rootv := rootv, procs := upd E.procs p x } := by
  have hlt : ∀ {t : Tag} {k}, R.own k = some t → k < w.heap.size := fun hk => (h.fresh _ (by rw [hk]; simp)).2
  have hold : ∀ {t : Tag} {k}, R.own k = some t → own' k = some t := fun hk => (ho _ (hlt hk)).trans hk
  have hs : ∀ {t : Tag} {k}, t ≠ .mach → t ≠ .proc p → R.own k = some t → ¬ F k := fun h1 h2 hk hf => by
    rcases hF _ hf with e | e <;> rw [hk] at e <;> injection e with e
    · exact h1 e
    · exact h2 e
  have hbase := (h.fresh be (by rw [h.engT]; simp))
  refine ⟨h.small, ?_, h.eng.keeps k (hs (by simp) (by simp) h.engT), hold h.engT, hM, fun q hq => hold (h.machT q hq), own_keeps h.procs k (fun q hq => hs (by simp) (by simp) (h.procsT q hq)), fun q hq => hold (h.procsT q hq), ?_,
    own_keeps h.asked k (fun q hq => hs (by simp) (by simp) (h.askedT q hq)), fun q hq => hold (h.askedT q hq), own_keeps h.vers k (fun q hq => hs (by simp) (by simp) (h.versT q hq)), fun q hq => hold (h.versT q hq), ?_⟩
  · intro q hq
    simp only at hq
    by_cases c : q < w.heap.size
    · rw [ho q c] at hq
      exact ⟨(h.fresh q hq).1, Nat.lt_of_lt_of_le c k.size⟩
    · exact ⟨by omega, (hn q (by omega) hq).2⟩
  · intro q hq
    simp only
    by_cases e : q = p
    · subst e
      simp only [upd_same]
      exact hX
    · rw [upd_ne _ _ e, upd_ne _ _ e, upd_ne _ _ e]
      refine (h.proc q hq).keeps k (fun j hj => ?_) (fun j hj => hold hj)
      rcases hF j hj with c | c <;> rw [c] <;> simp
      exact fun e' => e e'.symm
  · intro i hi
    refine (h.ver i hi).keeps k (fun j hj => ?_) (fun j hj => hold hj)
    have hj' := hF j hj
    refine ⟨by rcases hj' with c | c <;> rw [c] <;> simp, ?_⟩
    exact (h.fresh j (by rcases hj' with c | c <;> rw [c] <;> simp)).1
end

/-- What a method leaves. -/
def PPost (w : World) (base be : Nat) (R : PRef) (n : Nat) (E' : PS) (v : Value) (e : Ending) (w' : World) : Prop :=
  e = .returned v ∧ ∃ R', PRep w' base be R' n E' ∧ (∀ k, k < w.heap.size → R'.own k = R.own k) ∧ Keeps (fun k => R.own k ≠ none) w w'
end Go.Proofs.Ytjfenjnnpikkdaa
/- Package psim: what its methods leave, in general; its cells. -/
namespace Go.Proofs.Ytjfenjnnpikkdaa
set_option maxRecDepth 100000
open Go.RowKit

theorem own_set {w : World} {e T : TypeId} {s n b : Nat} {v : Value} {xs : List Value} {cs : Array Value} (h : Own w e s v n xs) (hB : Blk w b cs T) (hne : e ≠ T) (i : Nat) (x : Value) : Own (w.setCell ⟨b, i, none⟩ x) e s v n xs :=
  own_keeps h (Keeps.one w ⟨b, i, none⟩ x) (fun q hq hf => own_blk_ne h hB hne (by rw [hq]; exact congrArg some hf))
theorem own_drew {w : World} {e : TypeId} {s n : Nat} {v : Value} {xs : List Value} (h : Own w e s v n xs) : Own w.drew e s v n xs := h
section
variable {w w' : World} {base be n p : Nat} {R : PRef} {E : PS}

theorem step_cellsP (l : List Int) (s : List Int) (p : Int) : ∃ s', (⟨l, s⟩ : MS).step p = ⟨l, s'⟩ := by
  unfold MS.step
  split
  · exact ⟨_, rfl⟩
  · exact ⟨s, rfl⟩
section
variable {bm : Nat} {vc vs : Value} {s : List Int}
end

theorem PRep.nP (h : PRep w base be R n E) (hp : p < n) : ¬ machF R.bm R.vc R.vs (R.pa p) := fun hf => by
  have := h.machT _ hf
  rw [(h.proc p hp).tag] at this
  simp at this
theorem PRep.nE (h : PRep w base be R n E) : ¬ machF R.bm R.vc R.vs be := fun hf => by
  have := h.machT _ hf
  rw [h.engT] at this
  simp at this
theorem PRep.bne (h : PRep w base be R n E) (hp : p < n) : be ≠ R.pa p := fun e => by
  have := h.engT
  rw [e, (h.proc p hp).tag] at this
  simp at this
theorem PRep.nTag (h : PRep w base be R n E) {k : Nat} {t : Tag} (hk : R.own k = some t) (ht : t ≠ .mach) : ¬ machF R.bm R.vc R.vs k := fun hf => by
  have := h.machT _ hf
  rw [hk] at this
  injection this with this
  exact ht this
/-- The blocks that a step of process p turns, its row apart. -/
def turnF (R : PRef) (p : Nat) (k : Nat) : Prop := machF R.bm R.vc R.vs k ∨ k = R.pa p
theorem PRep.turnT (h : PRep w base be R n E) (hp : p < n) : ∀ k, turnF R p k → R.own k = some .mach ∨ R.own k = some (.proc p) := by
  rintro k (hk | rfl)
  · exact .inl (h.machT k hk)
  · exact .inr (h.proc p hp).tag
theorem keeps_own {F : Nat → Prop} (k : Keeps F w w') (hF : ∀ k, F k → R.own k = some .mach ∨ R.own k = some (.proc p)) : Keeps (fun k => R.own k ≠ none) w w' :=
  k.mono fun j hj => by rcases hF j hj with c | c <;> rw [c] <;> simp
/-- A method without a new row. -/
theorem PRep.fin (h : PRep w base be R n E) (hp : p < n) (k : Keeps (turnF R p) w w') {annv : Nat → Nat} {rootv : Nat} {steps : List Int} (hM : Mach w' R.bm R.vc R.vs ⟨cellsP n { E with annv := annv, rootv := rootv }, steps⟩)
    {x : Pr} (ht : x.todo = (E.procs p).todo) (hB : Blk w' (R.pa p) (procV be p x (R.bef p) (phV (R.pa p) x.ph) (R.pt p)) 81) (v : Value) :
    PPost w base be R n { E with annv := annv, rootv := rootv, procs := upd E.procs p x } v (.returned v) w' := by
  have hT := h.turnT hp
  have hx := h.proc p hp
  refine ⟨rfl, _, h.turn hp k hT R.own (fun _ _ => rfl) (fun q hq hn => ?_) annv rootv steps hM x (R.bef p) (R.pt p) ⟨hx.tag, hB, ?_, hx.todoT⟩, fun _ _ => rfl, keeps_own k hT⟩
  · have := (h.fresh q hn).2; omega
  · rw [ht]
    refine own_keeps hx.todo k fun q hq hf => ?_
    rcases hf with hf | hf
    · have := h.machT q hf; rw [hx.todoT q hq] at this; simp at this
    · subst hf; exact own_blk_ne hx.todo hx.blk (by decide) hq
end
end Go.Proofs.Ytjfenjnnpikkdaa
/- Histories of shared objects in plain Lean: what a script leaves, for any engine. -/
namespace Go.Proofs.Ytjfenjnnpikkdaa
set_option maxRecDepth 100000

/-- An operation of a history. -/
structure CallR where
  p : Nat
  seq : Nat
  frm : Nat
  to : Int
  resp : Int
  op : Op3
/-- An entry of a script. -/
structure EvR where
  kind : Int
  p : Int
  op : Op3
structure RunS (σ : Type) where
  E : σ
  calls : List CallR
  opn : Nat → Nat

def noCall : CallR := ⟨0, 0, 0, 0, 0, ⟨0, 0, 0⟩⟩
def RunS.cat {σ : Type} (R : RunS σ) (j : Nat) : CallR := R.calls.getD j noCall

section
variable {σ : Type} (L : Lin σ)
def codeI (E : σ) (p : Int) (o : Op3) : Int := if 0 ≤ p ∧ p < L.n ∧ fitsB o = true then (if L.busy E p.toNat = true then 14 else 0) else 1
def invI (E : σ) (p : Int) (o : Op3) : σ := if codeI L E p o = 0 then L.invoke E p.toNat o else E
def stpI (E : σ) (p : Int) : σ × Int × Bool := if 0 ≤ p ∧ p < L.n ∧ L.busy E p.toNat = true then L.step E p.toNat else (E, 0, false)
def evG (E : σ) (e : EvR) : σ := if e.kind = 0 then invI L E e.p e.op else if e.kind = 1 then (stpI L E e.p).1 else E
def RunS.begun (R : RunS σ) (p : Nat) (o : Op3) (i : Nat) : RunS σ := { E := L.invoke R.E p o, calls := R.calls ++ [⟨p, L.many R.E p + 1, i, -1, 0, o⟩], opn := upd R.opn p R.calls.length }
def RunS.ended (R : RunS σ) (p : Nat) (i : Nat) (E' : σ) (n : Int) : RunS σ := { R with E := E', calls := R.calls.set (R.opn p) { R.cat (R.opn p) with to := i, resp := n } }
def evS (R : RunS σ) (i : Nat) (e : EvR) : RunS σ :=
  if 0 ≤ e.p ∧ e.p < L.n then
    if e.kind = 0 then (if codeI L R.E e.p e.op = 0 then R.begun L e.p.toNat e.op i else R)
    else if e.kind = 1 then (if (stpI L R.E e.p).2.2 = true then R.ended e.p.toNat i (stpI L R.E e.p).1 (stpI L R.E e.p).2.1 else { R with E := (stpI L R.E e.p).1 })
    else R
  else R
def runS (f : Nat → EvR) (R : RunS σ) : Nat → RunS σ
  | 0 => R
  | k + 1 => evS L (runS f R k) k (f k)
def runG (f : Nat → EvR) (E : σ) : Nat → σ
  | 0 => E
  | k + 1 => evG L (runG f E k) (f k)

theorem codeI_zero (E : σ) (p : Int) (o : Op3) : codeI L E p o = 0 ↔ 0 ≤ p ∧ p < L.n ∧ fitsB o = true ∧ L.busy E p.toNat = false := by
  unfold codeI
  by_cases h : 0 ≤ p ∧ p < L.n ∧ fitsB o = true
  · rw [if_pos h]
    by_cases hb : L.busy E p.toNat = true
    · simp [hb]
    · simp [hb, h]
  · rw [if_neg h]
    simp only [Int.one_ne_zero, false_iff]
    exact fun g => h ⟨g.1, g.2.1, g.2.2.1⟩
theorem stpI_pos (E : σ) (p : Int) (h : 0 ≤ p ∧ p < L.n ∧ L.busy E p.toNat = true) : stpI L E p = L.step E p.toNat := if_pos h
theorem stpI_neg (E : σ) (p : Int) (h : ¬ (0 ≤ p ∧ p < L.n ∧ L.busy E p.toNat = true)) : stpI L E p = (E, 0, false) := if_neg h
theorem evS_E (R : RunS σ) (i : Nat) (e : EvR) : (evS L R i e).E = evG L R.E e := by
  unfold evS evG invI
  by_cases hp : 0 ≤ e.p ∧ e.p < L.n
  · rw [if_pos hp]
    by_cases h0 : e.kind = 0
    · rw [if_pos h0, if_pos h0]
      by_cases hc : codeI L R.E e.p e.op = 0
      · rw [if_pos hc, if_pos hc]; rfl
      · rw [if_neg hc, if_neg hc]
    · rw [if_neg h0, if_neg h0]
      by_cases h1 : e.kind = 1
      · rw [if_pos h1, if_pos h1]
        by_cases hd : (stpI L R.E e.p).2.2 = true
        · rw [if_pos hd]; rfl
        · rw [if_neg hd]
      · rw [if_neg h1, if_neg h1]
  · rw [if_neg hp]
    by_cases h0 : e.kind = 0
    · rw [if_pos h0, if_neg (fun h => hp ⟨((codeI_zero L _ _ _).1 h).1, ((codeI_zero L _ _ _).1 h).2.1⟩)]
    · rw [if_neg h0]
      by_cases h1 : e.kind = 1
      · rw [if_pos h1, stpI_neg L _ _ (fun h => hp ⟨h.1, h.2.1⟩)]
      · rw [if_neg h1]
theorem runS_E (f : Nat → EvR) (R : RunS σ) : ∀ k, (runS L f R k).E = runG L f R.E k := by
  intro k
  induction k with
  | zero => rfl
  | succ k ih => unfold runS runG; rw [evS_E, ih]

variable {L}
theorem Lin.inv_ev (L : Lin σ) {E : σ} (h : L.Inv E) (e : EvR) : L.Inv (evG L E e) := by
  unfold evG invI
  split
  · split
    · rename_i hc
      have hc := (codeI_zero L _ _ _).1 hc
      exact L.inv_invoke E _ _ h (by omega) hc.2.2.2 hc.2.2.1
    · exact h
  · split
    · by_cases hp : 0 ≤ e.p ∧ e.p < L.n ∧ L.busy E e.p.toNat = true
      · rw [stpI_pos L _ _ hp]; exact L.inv_step E _ h (by omega) hp.2.2
      · rw [stpI_neg L _ _ hp]; exact h
    · exact h
theorem Lin.inv_run (L : Lin σ) (f : Nat → EvR) {E : σ} (h : L.Inv E) : ∀ k, L.Inv (runG L f E k) := by
  intro k
  induction k with
  | zero => exact h
  | succ k ih => exact L.inv_ev ih _
/-- The log only grows. -/
theorem Lin.log_ev (L : Lin σ) {E : σ} (h : L.Inv E) (e : EvR) : ∃ m, L.log (evG L E e) = L.log E ++ m := by
  unfold evG invI
  split
  · split
    · rename_i hc
      have hc := (codeI_zero L _ _ _).1 hc
      exact ⟨[], by rw [L.log_invoke E _ _ h (by omega) hc.2.2.2]; simp⟩
    · exact ⟨[], by simp⟩
  · split
    · by_cases hp : 0 ≤ e.p ∧ e.p < L.n ∧ L.busy E e.p.toNat = true
      · rw [stpI_pos L _ _ hp]; exact L.log_step E _ h (by omega) hp.2.2
      · rw [stpI_neg L _ _ hp]; exact ⟨[], by simp⟩
    · exact ⟨[], by simp⟩
theorem Lin.log_run (L : Lin σ) (f : Nat → EvR) {E : σ} (h : L.Inv E) {j : Nat} : ∀ k, j ≤ k → ∃ m, L.log (runG L f E k) = L.log (runG L f E j) ++ m := by
  intro k
  induction k with
  | zero => intro hj; have : j = 0 := by omega
            subst this; exact ⟨[], by simp⟩
  | succ k ih =>
    intro hj
    by_cases e : j = k + 1
    · subst e; exact ⟨[], by simp⟩
    · obtain ⟨m, hm⟩ := ih (by omega)
      obtain ⟨m', hm'⟩ := L.log_ev (L.inv_run f h k) (f k)
      exact ⟨m ++ m', by show L.log (evG L _ _) = _; rw [hm', hm]; simp⟩

/-- What holds of a history. -/
structure RInv (L : Lin σ) (i : Nat) (R : RunS σ) : Prop where
  inv : L.Inv R.E
  frm : ∀ j, j < R.calls.length → (R.cat j).p < L.n ∧ 1 ≤ (R.cat j).seq ∧ (R.cat j).seq ≤ L.many R.E (R.cat j).p ∧ (R.cat j).frm < i ∧ (R.cat j).to < i
  one : ∀ j k, j < R.calls.length → k < R.calls.length → (R.cat j).p = (R.cat k).p → (R.cat j).seq = (R.cat k).seq → j = k
  all : ∀ p m, p < L.n → 1 ≤ m → m ≤ L.many R.E p → ∃ j, j < R.calls.length ∧ (R.cat j).p = p ∧ (R.cat j).seq = m
  opn : ∀ p, p < L.n → L.busy R.E p = true → R.opn p < R.calls.length ∧ (R.cat (R.opn p)).p = p ∧ (R.cat (R.opn p)).seq = L.many R.E p ∧ (R.cat (R.opn p)).op = L.cur R.E p ∧ (R.cat (R.opn p)).to = -1
  und : ∀ j, j < R.calls.length → (R.cat j).to < 0 → L.busy R.E (R.cat j).p = true ∧ (R.cat j).seq = L.many R.E (R.cat j).p
  don : ∀ j, j < R.calls.length → 0 ≤ (R.cat j).to → ∃ r ∈ L.log R.E, r.proc = (R.cat j).p ∧ r.seq = (R.cat j).seq ∧ r.op = (R.cat j).op ∧ r.resp = (R.cat j).resp
  ord : ∀ j k, j < R.calls.length → k < R.calls.length → 0 ≤ (R.cat j).to → (R.cat j).to < (R.cat k).frm → ∀ (x : Nat) (r : Rec), (L.log R.E)[x]? = some r → r.proc = (R.cat k).p → r.seq = (R.cat k).seq → ∃ (y : Nat) (q : Rec), y < x ∧ (L.log R.E)[y]? = some q ∧ q.proc = (R.cat j).p ∧ q.seq = (R.cat j).seq

theorem cat_append {σ : Type} {R : RunS σ} {E : σ} {o : Nat → Nat} {c : CallR} {j : Nat} (h : j < R.calls.length) : (RunS.mk E (R.calls ++ [c]) o).cat j = R.cat j := by
  simp [RunS.cat, List.getD_eq_getElem?_getD, List.getElem?_append_left h]
theorem cat_new {σ : Type} {R : RunS σ} {E : σ} {o : Nat → Nat} {c : CallR} : (RunS.mk E (R.calls ++ [c]) o).cat R.calls.length = c := by
  simp [RunS.cat, List.getD_eq_getElem?_getD]
theorem cat_set {σ : Type} {R : RunS σ} {E : σ} {o : Nat → Nat} {c : CallR} {k j : Nat} (hk : k < R.calls.length) : (RunS.mk E (R.calls.set k c) o).cat j = if j = k then c else R.cat j := by
  simp only [RunS.cat, List.getD_eq_getElem?_getD, List.getElem?_set]
  by_cases e : k = j
  · subst e; simp [hk]
  · rw [if_neg e, if_neg (fun h => e h.symm)]

theorem RInv.start (L : Lin σ) {E : σ} (h : L.Inv E) (hm : ∀ p, p < L.n → L.many E p = 0) (hb : ∀ p, p < L.n → L.busy E p = false) : RInv L 0 ⟨E, [], fun _ => 0⟩ := by
  refine ⟨h, fun j hj => by simp at hj, fun j k hj => by simp at hj, fun p m hp h1 h2 => ?_, fun p hp hb' => ?_, fun j hj => by simp at hj, fun j hj => by simp at hj, fun j k hj => by simp at hj⟩
  · have := hm p hp; simp only at h2; omega
  · rw [hb p hp] at hb'; simp at hb'
theorem RInv.mono {i k : Nat} {R : RunS σ} (h : RInv L i R) (hk : i ≤ k) : RInv L k R :=
  ⟨h.inv, fun j hj => by obtain ⟨h1, h2, h3, h4, h5⟩ := h.frm j hj; exact ⟨h1, h2, h3, by omega, by omega⟩, h.one, h.all, h.opn, h.und, h.don, h.ord⟩

/-- A step that answers nothing yet. -/
theorem RInv.go {i p : Nat} {R : RunS σ} (h : RInv L i R) (hp : p < L.n) (hb : L.busy R.E p = true) (hd : (L.step R.E p).2.2 = false) : RInv L i { R with E := (L.step R.E p).1 } := by
  have hbq : ∀ q, L.busy (L.step R.E p).1 q = L.busy R.E q := fun q => by rw [L.busy_step _ p h.inv hp hb q, hd]; simp
  have hm := L.many_step _ p h.inv hp hb
  obtain ⟨m, hlog⟩ := L.log_step _ p h.inv hp hb
  refine ⟨L.inv_step _ p h.inv hp hb, fun j hj => ?_, h.one, fun q k hq h1 h2 => h.all q k hq h1 (by simpa [hm] using h2), fun q hq hbb => ?_, fun j hj ht => ?_, fun j hj ht => ?_, fun j k hj hk h0 h1 x r hx hr1 hr2 => ?_⟩
  · show _ ∧ _ ∧ _ ≤ L.many (L.step R.E p).1 _ ∧ _; rw [hm]; exact h.frm j hj
  · simp only at hbb ⊢
    have g := h.opn q hq (by rw [← hbq]; exact hbb)
    rw [hm, L.cur_step _ p h.inv hp hb q hbb]
    exact g
  · simp only at ht ⊢; rw [hbq, hm]; exact h.und j hj ht
  · obtain ⟨r, hr, g⟩ := h.don j hj ht
    exact ⟨r, by simp only; rw [hlog]; exact List.mem_append_left _ hr, g⟩
  · simp only at hx ⊢
    rw [hlog] at hx ⊢
    by_cases hxl : x < (L.log R.E).length
    · rw [List.getElem?_append_left hxl] at hx
      obtain ⟨y, q, hy, g, g'⟩ := h.ord j k hj hk h0 h1 x r hx hr1 hr2
      exact ⟨y, q, hy, by rw [List.getElem?_append_left (by omega)]; exact g, g'⟩
    · obtain ⟨q, hq, g1, g2, _⟩ := h.don j hj h0
      obtain ⟨y, hy⟩ := List.getElem?_of_mem hq
      have hyl := (List.getElem?_eq_some_iff.1 hy).1
      exact ⟨y, q, by omega, by rw [List.getElem?_append_left hyl]; exact hy, g1, g2⟩
/-- What is answered. -/
theorem RInv.fin {i p : Nat} {R : RunS σ} (h : RInv L i R) (hp : p < L.n) (hb : L.busy R.E p = true) (hd : (L.step R.E p).2.2 = true) : RInv L (i + 1) (R.ended p i (L.step R.E p).1 (L.step R.E p).2.1) := by
  have hbq : ∀ q, L.busy (L.step R.E p).1 q = (L.busy R.E q && !decide (q = p)) := fun q => by rw [L.busy_step _ p h.inv hp hb q, hd]; simp
  have hm := L.many_step _ p h.inv hp hb
  obtain ⟨m, hlog⟩ := L.log_step _ p h.inv hp hb
  obtain ⟨rd, hrd, d1, d2, d3, d4⟩ := L.done_step _ p h.inv hp hb hd
  obtain ⟨ho, o1, o2, o3, o4⟩ := h.opn p hp hb
  have hc : ∀ j, (R.ended p i (L.step R.E p).1 (L.step R.E p).2.1).cat j = if j = R.opn p then { R.cat (R.opn p) with to := i, resp := (L.step R.E p).2.1 } else R.cat j := fun j => cat_set ho
  have hlen : (R.ended p i (L.step R.E p).1 (L.step R.E p).2.1).calls.length = R.calls.length := by simp [RunS.ended]
  have hE : (R.ended p i (L.step R.E p).1 (L.step R.E p).2.1).E = (L.step R.E p).1 := rfl
  have hO : (R.ended p i (L.step R.E p).1 (L.step R.E p).2.1).opn = R.opn := rfl
  generalize R.ended p i (L.step R.E p).1 (L.step R.E p).2.1 = R' at *
  have hps : ∀ j, (R'.cat j).p = (R.cat j).p ∧ (R'.cat j).seq = (R.cat j).seq ∧ (R'.cat j).frm = (R.cat j).frm ∧ (R'.cat j).op = (R.cat j).op := fun j => by
    rw [hc]; by_cases e : j = R.opn p
    · subst e; simp
    · simp [e]
  refine ⟨by rw [hE]; exact L.inv_step _ p h.inv hp hb, fun j hj => ?_, fun j k hj hk e1 e2 => ?_, fun q k hq h1 h2 => ?_, fun q hq hbb => ?_, fun j hj ht => ?_, fun j hj ht => ?_, fun j k hj hk h0 h1 x r hx hr1 hr2 => ?_⟩
  · rw [hlen] at hj
    obtain ⟨f1, f2, f3, f4, f5⟩ := h.frm j hj
    refine ⟨by rw [(hps j).1]; exact f1, by rw [(hps j).2.1]; exact f2, by rw [(hps j).2.1, (hps j).1, hE, hm]; exact f3, by rw [(hps j).2.2.1]; omega, ?_⟩
    rw [hc]; split
    · simp only; omega
    · omega
  · rw [hlen] at hj hk
    rw [(hps j).1, (hps k).1] at e1
    rw [(hps j).2.1, (hps k).2.1] at e2
    exact h.one j k hj hk e1 e2
  · rw [hE, hm] at h2
    obtain ⟨j, g1, g2, g3⟩ := h.all q k hq h1 h2
    exact ⟨j, by rw [hlen]; exact g1, by rw [(hps j).1]; exact g2, by rw [(hps j).2.1]; exact g3⟩
  · rw [hE, hbq] at hbb
    simp only [Bool.and_eq_true, Bool.not_eq_true', decide_eq_false_iff_not] at hbb
    obtain ⟨g1, g2, g3, g4, g5⟩ := h.opn q hq hbb.1
    have hne : R.opn q ≠ R.opn p := fun e => hbb.2 (by rw [← g2, e, o1])
    rw [hO, hlen, hE, hm, L.cur_step _ p h.inv hp hb q (by rw [hbq]; simp [hbb])]
    rw [hc, if_neg hne]
    exact ⟨g1, g2, g3, g4, g5⟩
  · rw [hlen] at hj
    have hne : j ≠ R.opn p := fun e => by rw [hc, if_pos e] at ht; simp only at ht; omega
    rw [hc, if_neg hne] at ht ⊢
    obtain ⟨g1, g2⟩ := h.und j hj ht
    rw [hE, hbq, hm]
    refine ⟨?_, g2⟩
    rw [g1]
    have : (R.cat j).p ≠ p := fun e => hne (h.one j _ hj ho (by rw [e, o1]) (by rw [g2, e, o2]))
    simp [this]
  · rw [hlen] at hj
    by_cases e : j = R.opn p
    · subst e
      rw [hc, if_pos rfl, hE]
      exact ⟨rd, hrd, by simp only; rw [d1, o1], by simp only; rw [d2, o2], by simp only; rw [d3, o3], by simp only; exact d4⟩
    · rw [hc, if_neg e] at ht ⊢
      obtain ⟨r, hr, g⟩ := h.don j hj ht
      exact ⟨r, by rw [hE, hlog]; exact List.mem_append_left _ hr, g⟩
  · rw [hlen] at hj hk
    have hkf := (h.frm k hk).2.2.2.1
    rw [(hps k).2.2.1] at h1
    rw [(hps k).1] at hr1
    rw [(hps k).2.1] at hr2
    have e : j ≠ R.opn p := fun e => by rw [hc, if_pos e] at h1; simp only at h1; omega
    rw [hc, if_neg e] at h0 h1 ⊢
    rw [hE] at hx ⊢
    rw [hlog] at hx ⊢
    by_cases hxl : x < (L.log R.E).length
    · rw [List.getElem?_append_left hxl] at hx
      obtain ⟨y, q, hy, g, g'⟩ := h.ord j k hj hk h0 h1 x r hx hr1 hr2
      exact ⟨y, q, hy, by rw [List.getElem?_append_left (by omega)]; exact g, g'⟩
    · obtain ⟨q, hq, g1, g2, _⟩ := h.don j hj h0
      obtain ⟨y, hy⟩ := List.getElem?_of_mem hq
      have hyl := (List.getElem?_eq_some_iff.1 hy).1
      exact ⟨y, q, by omega, by rw [List.getElem?_append_left hyl]; exact hy, g1, g2⟩
/-- One that begins. -/
theorem RInv.begun {i p : Nat} {R : RunS σ} (h : RInv L i R) (hp : p < L.n) (hb : L.busy R.E p = false) (o : Op3) (hf : fitsB o = true) : RInv L (i + 1) (R.begun L p o i) := by
  have hbq := L.busy_invoke _ p o h.inv hp hb
  have hm := L.many_invoke _ p o h.inv hp hb
  have hlog := L.log_invoke _ p o h.inv hp hb
  have hcur := L.cur_invoke _ p o h.inv hp hb
  have hinv := L.inv_invoke _ p o h.inv hp hb hf
  have hmp : L.many (L.invoke R.E p o) p = L.many R.E p + 1 := by rw [hm]; simp
  have hold : ∀ j, j < R.calls.length → (R.begun L p o i).cat j = R.cat j := fun j hj => cat_append hj
  have hnew : (R.begun L p o i).cat R.calls.length = ⟨p, L.many R.E p + 1, i, -1, 0, o⟩ := cat_new
  have hlen : (R.begun L p o i).calls.length = R.calls.length + 1 := by simp [RunS.begun]
  have hE : (R.begun L p o i).E = L.invoke R.E p o := rfl
  have hO : (R.begun L p o i).opn = upd R.opn p R.calls.length := rfl
  generalize R.begun L p o i = R' at *
  have cases2 : ∀ j, j < R.calls.length + 1 → j < R.calls.length ∨ j = R.calls.length := fun j hj => by omega
  have hcount := L.log_many _ h.inv p hp
  refine ⟨by rw [hE]; exact hinv, fun j hj => ?_, fun j k hj hk e1 e2 => ?_, fun q k hq h1 h2 => ?_, fun q hq hbb => ?_, fun j hj ht => ?_, fun j hj ht => ?_, fun j k hj hk h0 h1 x r hx hr1 hr2 => ?_⟩
  · rw [hlen] at hj
    rcases cases2 j hj with hj | rfl
    · rw [hold j hj, hE, hm]
      obtain ⟨f1, f2, f3, f4, f5⟩ := h.frm j hj
      exact ⟨f1, f2, by omega, by omega, by omega⟩
    · rw [hnew, hE]
      simp only
      rw [hmp]
      exact ⟨hp, by omega, by omega, by omega, by omega⟩
  · rw [hlen] at hj hk
    rcases cases2 j hj with hj | rfl <;> rcases cases2 k hk with hk | rfl
    · rw [hold j hj, hold k hk] at e1 e2
      exact h.one j k hj hk e1 e2
    · rw [hold j hj, hnew] at e1 e2
      simp only at e1 e2
      have := (h.frm j hj).2.2.1
      rw [e1] at this
      omega
    · rw [hold k hk, hnew] at e1 e2
      simp only at e1 e2
      have := (h.frm k hk).2.2.1
      rw [← e1] at this
      omega
    · rfl
  · rw [hE, hm] at h2
    by_cases hle : k ≤ L.many R.E q
    · obtain ⟨j, g1, g2, g3⟩ := h.all q k hq h1 hle
      exact ⟨j, by rw [hlen]; omega, by rw [hold j g1]; exact g2, by rw [hold j g1]; exact g3⟩
    · by_cases e : q = p
      · subst e
        rw [if_pos rfl] at h2
        exact ⟨R.calls.length, by rw [hlen]; omega, by rw [hnew], by rw [hnew]; simp only; omega⟩
      · rw [if_neg e] at h2; omega
  · rw [hE] at hbb ⊢
    rw [hO, hlen]
    have hc := hcur q hq hbb
    rw [hbq] at hbb
    by_cases e : q = p
    · subst e
      rw [upd_same, hnew, hmp, hc, if_pos rfl]
      exact ⟨by omega, rfl, rfl, rfl, rfl⟩
    · rw [upd_ne _ _ e, hm, if_neg e, hc, if_neg e]
      obtain ⟨g1, g2, g3, g4, g5⟩ := h.opn q hq (by simpa [e] using hbb)
      rw [hold _ g1]
      exact ⟨by omega, g2, g3, g4, g5⟩
  · rw [hlen] at hj
    rw [hE, hbq, hm]
    rcases cases2 j hj with hj | rfl
    · rw [hold j hj] at ht ⊢
      obtain ⟨g1, g2⟩ := h.und j hj ht
      have e : (R.cat j).p ≠ p := fun e => by rw [e, hb] at g1; simp at g1
      rw [if_neg e, g1]
      exact ⟨rfl, g2⟩
    · rw [hnew]
      simp
  · rw [hlen] at hj
    rw [hE, hlog]
    rcases cases2 j hj with hj | rfl
    · rw [hold j hj] at ht ⊢
      exact h.don j hj ht
    · rw [hnew] at ht; simp at ht
  · rw [hlen] at hj hk
    rw [hE, hlog] at hx ⊢
    have hj : j < R.calls.length := by
      rcases cases2 j hj with hj | rfl
      · exact hj
      · rw [hnew] at h0; simp at h0
    rw [hold j hj] at h0 h1 ⊢
    rcases cases2 k hk with hk | rfl
    · rw [hold k hk] at h1 hr1 hr2
      exact h.ord j k hj hk h0 h1 x r hx hr1 hr2
    · rw [hnew] at hr1 hr2
      simp only at hr1 hr2
      have := ((L.log_ok _ h.inv).seq_le hx).2
      rw [hr1] at this
      omega
theorem RInv.ev {i : Nat} {R : RunS σ} (h : RInv L i R) (e : EvR) : RInv L (i + 1) (evS L R i e) := by
  unfold evS
  split
  · rename_i hp
    split
    · split
      · rename_i hc
        have hc := (codeI_zero L _ _ _).1 hc
        exact h.begun (by omega) hc.2.2.2 _ hc.2.2.1
      · exact h.mono (by omega)
    · split
      · by_cases hb : L.busy R.E e.p.toNat = true
        · rw [stpI_pos L _ _ ⟨hp.1, hp.2, hb⟩]
          split
          · rename_i hd
            exact h.fin (by omega) hb hd
          · rename_i hd
            exact (h.go (by omega) hb (by simpa using hd)).mono (by omega)
        · rw [stpI_neg L _ _ (fun g => hb g.2.2)]
          exact h.mono (by omega)
      · exact h.mono (by omega)
  · exact h.mono (by omega)
theorem RInv.run {R : RunS σ} (h : RInv L 0 R) (f : Nat → EvR) : ∀ k, RInv L k (runS L f R k) := by
  intro k
  induction k with
  | zero => exact h
  | succ k ih => exact ih.ev _
/-- An engine that begins. -/
structure ZeroIf (L : Lin σ) (E : σ) : Prop where
  inv : L.Inv E
  many : ∀ p, p < L.n → L.many E p = 0
  busy : ∀ p, p < L.n → L.busy E p = false
  log : L.log E = []
theorem ZeroIf.rinv {E : σ} (h : ZeroIf L E) : RInv L 0 ⟨E, [], fun _ => 0⟩ := RInv.start L h.inv h.many h.busy
theorem Lin.many_ev (L : Lin σ) {E : σ} (h : L.Inv E) (e : EvR) (p : Nat) : L.many (evG L E e) p ≤ L.many E p + 1 := by
  unfold evG invI
  split
  · split
    · rename_i hc
      have hc := (codeI_zero L _ _ _).1 hc
      rw [L.many_invoke E _ _ h (by omega) hc.2.2.2]
      split <;> omega
    · omega
  · split
    · by_cases hp : 0 ≤ e.p ∧ e.p < L.n ∧ L.busy E e.p.toNat = true
      · rw [stpI_pos L _ _ hp, L.many_step E _ h (by omega) hp.2.2]; omega
      · rw [stpI_neg L _ _ hp]; simp
    · omega
theorem Lin.many_run (L : Lin σ) (f : Nat → EvR) {E : σ} (h : L.Inv E) (p : Nat) : ∀ k, L.many (runG L f E k) p ≤ L.many E p + k := by
  intro k
  induction k with
  | zero => exact Nat.le_refl _
  | succ k ih =>
    have := L.many_ev (L.inv_run f h k) (f k) p
    show L.many (evG L _ _) p ≤ _
    omega
theorem calls_run (f : Nat → EvR) (R : RunS σ) : ∀ k, (runS L f R k).calls.length ≤ R.calls.length + k := by
  intro k
  induction k with
  | zero => exact Nat.le_refl _
  | succ k ih =>
    show (evS L (runS L f R k) k (f k)).calls.length ≤ _
    have : (evS L (runS L f R k) k (f k)).calls.length ≤ (runS L f R k).calls.length + 1 := by
      unfold evS
      split
      · split
        · split
          · simp [RunS.begun]
          · omega
        · split
          · split
            · simp [RunS.ended]
            · exact Nat.le_succ _
          · omega
      · omega
    omega
end
end Go.Proofs.Ytjfenjnnpikkdaa
/- Arguments that are slices of structs with structs in them, all of ints, opened to their cells; scripts. -/
namespace Go.Proofs.Ytjfenjnnpikkdaa
set_option maxRecDepth 100000
open Go.RowKit Go.ChangeShapes Go.WideShapes Go.Deep
section
variable {H : Type} {enc : TypeId × Value → H} {P : Program} {w : World} {base : Nat} {spare : Nat → Bool} {held : Bool}
theorem open_flat_structs {t e : TypeId} {m fuel : Nat} {x : DataW H × List MemPlace} (ht : P.underlying t = some (.slice e)) (hC : P.cellsOf e = m) (h0 : 0 < m)
    (hflat : ∀ (n : Nat) (cs : List Value) (y : DataW H × List MemPlace), DataW.trod enc P w base (fun _ => true) held n e cs = some y → ∀ j, j < m → ∃ k, cs[j]? = some (.int .i64 k))
    (a : Option Addr) (len cap : Nat) (h : DataW.trod enc P w base (fun _ => true) held fuel t [.slice a len cap] = some x) :
    len ≤ cap ∧ cap ≤ 9223372036854775807 ∧ ∃ f : Nat → Nat → Int, IsOps w a len f m := by
  rcases open_slice ht h with ⟨hcs, _⟩ | ⟨a', len', cap', m', n, D, Pl, hcs, _, hl, hm, hmm, _, hi⟩
  · simp at hcs
    obtain ⟨rfl, rfl, rfl⟩ := hcs
    exact ⟨by omega, by omega, fun _ _ => 0, fun h => by omega⟩
  · simp at hcs
    obtain ⟨rfl, rfl, rfl⟩ := hcs
    simp at hmm
    subst hmm
    have key : ∀ i j, i < len → j < m → ∃ n, w.cell? (a'.add (i * m + j)) = some (.int .i64 n) := by
      intro i j hil hj
      obtain ⟨cs', hc, htr⟩ := hi i (by omega)
      rw [hC] at hc
      obtain ⟨_, hcl, hat⟩ := World.cells?_some hc
      obtain ⟨k, hk⟩ := hflat n cs' _ htr j hj
      refine ⟨k, ?_⟩
      rw [← Go.Deep.add_add, hat j hj, hk]
    simp only [maxLen] at hm
    refine ⟨hl, by omega, fun i j => if h : i < len ∧ j < m then (key i j h.1 h.2).choose else 0, fun hl0 => ?_⟩
    obtain ⟨n0, hc0⟩ := key 0 0 hl0 h0
    have hs := World.cell?_spot hc0
    obtain ⟨b, o, spot⟩ := a'
    have : spot = none := by simpa [Addr.add] using hs
    subst this
    refine ⟨b, o, rfl, ?_, fun i j hil hj => ?_⟩
    · have := World.block_lt_of_cell? _ _ hc0
      simpa [addr_plain] using this
    · have h2 := (key i j hil hj).choose_spec
      have e : (⟨b, o + i * m + j, none⟩ : Addr) = (⟨b, o, none⟩ : Addr).add (i * m + j) := by rw [addr_plain, Nat.add_assoc]
      show w.cell? ⟨b, o + i * m + j, none⟩ = some (.int .i64 (if h : i < len ∧ j < m then (key i j h.1 h.2).choose else 0))
      rw [dif_pos ⟨hil, hj⟩, e]
      exact h2
end
section
variable {H : Type} {enc : TypeId × Value → H} {W : World} {base : Nat} {held : Bool}
theorem flat_op (n : Nat) (cs : List Value) (y : DataW H × List MemPlace) (h : DataW.trod enc Try.prog W base (fun _ => true) held n 37 cs = some y) : ∃ a b c, cs = [.int .i64 a, .int .i64 b, .int .i64 c] := by
  obtain ⟨y0, y1, y2, m', hx', hl, u0, u1, u2⟩ := trod_struct3 Try.underlying37 h
  rw [Try.cells_op] at hl
  obtain ⟨c0, c1, c2, rfl⟩ : ∃ c0 c1 c2, cs = [c0, c1, c2] := by
    match cs, hl with
    | [a, b, c], _ => exact ⟨a, b, c, rfl⟩
  simp only [Try.cells_int, List.drop, List.take] at u0 u1 u2
  obtain ⟨k, e0, _, _⟩ := DataW.trod_int Try.underlying3 u0
  obtain ⟨a, e1, _, _⟩ := DataW.trod_int Try.underlying3 u1
  obtain ⟨b, e2, _, _⟩ := DataW.trod_int Try.underlying3 u2
  simp only [List.cons.injEq, and_true] at e0 e1 e2
  subst e0 e1 e2
  exact ⟨_, _, _, rfl⟩
end
/-- The entry of a script at a place. -/
def evAt (f : Nat → Nat → Int) (i : Nat) : EvR := ⟨f i 0, f i 1, ⟨f i 2, f i 3, f i 4⟩⟩
theorem IsOps.mono {w w' : World} {a : Option Addr} {len k m : Nat} {f : Nat → Nat → Int} (h : IsOps w a len f m) (hb : Below w.heap.size w w') (hk : k ≤ len) : IsOps w' a k f m := by
  intro h0
  obtain ⟨b, o, rfl, hlt, hc⟩ := h (by omega)
  exact ⟨b, o, rfl, Nat.lt_of_lt_of_le hlt hb.size, fun i j hi hj => (hb.cell (p := ⟨b, o + i * m + j, none⟩) hlt).trans (hc i j (by omega) hj)⟩
theorem IsOps.lt {w : World} {a : Option Addr} {len m : Nat} {f : Nat → Nat → Int} (h : IsOps w a len f m) (h0 : 0 < len) : ∀ ba oa, a = some ⟨ba, oa, none⟩ → ba < w.heap.size := by
  intro ba oa e
  obtain ⟨b, o, rfl, hlt, hc⟩ := h h0
  injection e with e
  injection e with e _ _
  omega
end Go.Proofs.Ytjfenjnnpikkdaa
/- One process that goes on alone, in plain Lean, for any engine. -/
namespace Go.Proofs.Ytjfenjnnpikkdaa
set_option maxRecDepth 100000
section
variable {σ : Type} (L : Lin σ)
/-- Behind k steps of one process, or behind its answer. -/
def soloS (E : σ) (p : Int) : Nat → σ × Int × Bool
  | 0 => (E, 0, false)
  | k + 1 => if (soloS E p k).2.2 = true then soloS E p k else stpI L (soloS E p k).1 p
/-- It ends. -/
structure SoloIf (B : Nat → Nat) where
  mu : σ → Nat → Nat
  mu_le : ∀ E p, L.Inv E → p < L.n → L.busy E p = true → (∀ q, q < L.n → q ≠ p → L.busy E q = false) → mu E p ≤ B (L.log E).length
  mu_step : ∀ E p, L.Inv E → p < L.n → L.busy E p = true → (∀ q, q < L.n → q ≠ p → L.busy E q = false) → (L.step E p).2.2 = false → mu (L.step E p).1 p < mu E p

theorem solo_stay (E : σ) (p : Int) {k : Nat} (h : (soloS L E p k).2.2 = true) : ∀ j, k ≤ j → soloS L E p j = soloS L E p k := by
  intro j
  induction j with
  | zero => intro hj; have : k = 0 := by omega
            subst this; rfl
  | succ j ih =>
    intro hj
    by_cases e : k = j + 1
    · subst e; rfl
    · have := ih (by omega)
      show (if (soloS L E p j).2.2 = true then soloS L E p j else stpI L (soloS L E p j).1 p) = _
      rw [this, if_pos h]
variable {L}
/-- What is so while it has not answered, and when it has. -/
structure SoloR (L : Lin σ) (E : σ) (p : Nat) (t : σ × Int × Bool) : Prop where
  inv : L.Inv t.1
  busy : ∀ q, L.busy t.1 q = (L.busy E q && !(decide (q = p) && t.2.2))
  many : ∀ q, L.many t.1 q = L.many E q
  cur : t.2.2 = false → L.cur t.1 p = L.cur E p
  log : ∃ m, L.log t.1 = L.log E ++ m
  done : t.2.2 = true → ∃ r ∈ L.log t.1, r.proc = p ∧ r.seq = L.many E p ∧ r.op = L.cur E p ∧ r.resp = t.2.1
theorem solo_rel {E : σ} {p : Nat} (hI : L.Inv E) (hp : p < L.n) (hb : L.busy E p = true) : ∀ k, SoloR L E p (soloS L E p k) := by
  intro k
  induction k with
  | zero => exact ⟨hI, fun q => by simp [soloS], fun q => rfl, fun _ => rfl, ⟨[], by simp [soloS]⟩, fun h => by simp [soloS] at h⟩
  | succ k ih =>
    unfold soloS
    by_cases hd : (soloS L E p k).2.2 = true
    · rw [if_pos hd]; exact ih
    · rw [if_neg hd]
      have hd' : (soloS L E p k).2.2 = false := by simpa using hd
      generalize soloS L E p k = t at *
      have hbt : L.busy t.1 p = true := by rw [ih.busy, hd', hb]; simp
      rw [stpI_pos L _ _ ⟨by omega, by omega, by simpa using hbt⟩, Int.toNat_natCast]
      have hm := L.many_step _ p ih.inv hp hbt
      obtain ⟨m, hl⟩ := L.log_step _ p ih.inv hp hbt
      obtain ⟨m0, hl0⟩ := ih.log
      refine ⟨L.inv_step _ p ih.inv hp hbt, fun q => ?_, fun q => by rw [hm, ih.many], fun h => ?_, ⟨m0 ++ m, by rw [hl, hl0]; simp⟩, fun h => ?_⟩
      · rw [L.busy_step _ p ih.inv hp hbt, ih.busy, hd']; simp
      · rw [L.cur_step _ p ih.inv hp hbt p (by rw [L.busy_step _ p ih.inv hp hbt, hbt, h]; simp), ih.cur hd']
      · obtain ⟨r, hr, h1, h2, h3, h4⟩ := L.done_step _ p ih.inv hp hbt h
        exact ⟨r, hr, h1, by rw [h2, ih.many], by rw [h3, ih.cur hd'], h4⟩
theorem solo_done {B : Nat → Nat} (S : SoloIf L B) {E : σ} {p : Nat} (hI : L.Inv E) (hp : p < L.n) (hb : L.busy E p = true) (ho : ∀ q, q < L.n → q ≠ p → L.busy E q = false) : (soloS L E p (B (L.log E).length + 1)).2.2 = true := by
  have key : ∀ k, (soloS L E p k).2.2 = true ∨ S.mu (soloS L E p k).1 p + k ≤ B (L.log E).length := by
    intro k
    induction k with
    | zero => exact .inr (S.mu_le E p hI hp hb ho)
    | succ k ih =>
      rcases ih with ih | ih
      · left; unfold soloS; rw [if_pos ih]; exact ih
      · by_cases hd : (soloS L E p k).2.2 = true
        · left; unfold soloS; rw [if_pos hd]; exact hd
        · have hR := solo_rel hI hp hb k
          have hd' : (soloS L E p k).2.2 = false := by simpa using hd
          have hbt : L.busy (soloS L E p k).1 p = true := by rw [hR.busy, hd', hb]; simp
          have e : soloS L E p (k + 1) = L.step (soloS L E p k).1 p := by
            conv => lhs; unfold soloS
            rw [if_neg hd, stpI_pos L _ _ ⟨by omega, by omega, by simpa using hbt⟩, Int.toNat_natCast]
          rw [e]
          by_cases h2 : (L.step (soloS L E p k).1 p).2.2 = true
          · exact .inl h2
          · have := S.mu_step _ p hR.inv hp hbt (fun q hq hne => by rw [hR.busy, ho q hq hne]; simp) (by simpa using h2)
            right; omega
  rcases key (B (L.log E).length + 1) with h | h
  · exact h
  · omega
/-- The answer of one that begins and goes on alone, when nobody else has something to do. -/
theorem solo_end {E : σ} {p : Nat} {o : Op3} (hI : L.Inv E) (hp : p < L.n) (hid : ∀ q, q < L.n → L.busy E q = false) (hf : fitsB o = true) {k : Nat} (hd : (soloS L (L.invoke E p o) p k).2.2 = true) :
    (soloS L (L.invoke E p o) p k).2.1 = (stepS (behind L.start (L.log E)) o).2 ∧ behind L.start (L.log (soloS L (L.invoke E p o) p k).1) = (stepS (behind L.start (L.log E)) o).1 ∧
      (∀ q, q < L.n → L.busy (soloS L (L.invoke E p o) p k).1 q = false) ∧ L.Inv (soloS L (L.invoke E p o) p k).1 ∧ (L.log (soloS L (L.invoke E p o) p k).1).length = (L.log E).length + 1 := by
  have hb := hid p hp
  have hI1 := L.inv_invoke E p o hI hp hb hf
  have hb1 : L.busy (L.invoke E p o) p = true := by rw [L.busy_invoke E p o hI hp hb]; simp
  have hc1 : L.cur (L.invoke E p o) p = o := by rw [L.cur_invoke E p o hI hp hb p hp hb1, if_pos rfl]
  have hm1 := L.many_invoke E p o hI hp hb
  have hl1 := L.log_invoke E p o hI hp hb
  have hR := solo_rel hI1 hp hb1 k
  generalize soloS L (L.invoke E p o) p k = t at *
  have hbq : ∀ q, q < L.n → L.busy t.1 q = false := fun q hq => by
    rw [hR.busy, L.busy_invoke E p o hI hp hb, hid q hq, hd]; simp
  obtain ⟨m, hm⟩ := hR.log
  rw [hl1] at hm
  have hct : ∀ q, q < L.n → countL m q = if q = p then 1 else 0 := fun q hq => by
    have h1 := L.log_idle _ hR.inv q hq (hbq q hq)
    have h2 := L.log_idle _ hI q hq (hid q hq)
    rw [hR.many, hm1, hm, countL_append] at h1
    omega
  have hok := L.log_ok _ hR.inv
  have hproc : ∀ r ∈ m, r.proc = p := by
    intro r hr
    have hin : r ∈ L.log t.1 := by rw [hm]; exact List.mem_append_right _ hr
    obtain ⟨x, hx⟩ := List.getElem?_of_mem hin
    have hlt := (hok.at x r hx).2.1
    have h1 := hct r.proc hlt
    by_cases e : r.proc = p
    · exact e
    · rw [if_neg e] at h1
      have : r ∈ m.filter fun s => s.proc == r.proc := List.mem_filter.2 ⟨hr, by simp⟩
      have h2 : 0 < (m.filter fun s => s.proc == r.proc).length := List.length_pos_of_mem this
      unfold countL at h1
      omega
  have hlen : m.length = 1 := by
    have h1 := hct p hp
    rw [if_pos rfl] at h1
    unfold countL at h1
    rwa [List.filter_eq_self.2 (fun r hr => by simp [hproc r hr])] at h1
  obtain ⟨r, rfl⟩ : ∃ r, m = [r] := List.length_eq_one_iff.1 hlen
  have hx : (L.log t.1)[(L.log E).length]? = some r := by rw [hm]; simp
  obtain ⟨g1, g2, g3, g4⟩ := hok.at _ r hx
  rw [hm, List.take_left] at g3 g4
  have hrp := hproc r (by simp)
  obtain ⟨rd, hrd, d1, d2, d3, d4⟩ := hR.done hd
  obtain ⟨y, hy⟩ := List.getElem?_of_mem hrd
  have hseq : rd.seq = r.seq := by rw [d2, hm1, if_pos rfl, g3, hrp, L.log_idle _ hI p hp hb]
  have hy2 := hok.inj hy hx (by rw [d1, hrp]) hseq
  rw [hy2, hx] at hy
  have he : r = rd := by simpa using hy
  subst he
  rw [hc1] at d3
  rw [d3] at g4
  refine ⟨by rw [← d4]; exact g4, ?_, hbq, hR.inv, by rw [hm]; simp⟩
  rw [hm, behind_snoc, d3]
end
end Go.Proofs.Ytjfenjnnpikkdaa
