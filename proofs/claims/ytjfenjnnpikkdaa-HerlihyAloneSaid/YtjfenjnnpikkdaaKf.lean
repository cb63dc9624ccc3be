/-
  Layer 4, the document's answer: cut, Fits.
-/
import Derived.IntWalk
import Derived.Test.YtjfenjnnpikkdaaKa
import Derived.Test.YtjfenjnnpikkdaaKaa
import Derived.Test.YtjfenjnnpikkdaaKab
import Derived.Test.YtjfenjnnpikkdaaKac
import Derived.Test.YtjfenjnnpikkdaaKad
import Derived.Test.YtjfenjnnpikkdaaKd
set_option linter.unusedVariables false
set_option linter.unusedSimpArgs false
namespace Go.Proofs.Ytjfenjnnpikkdaa
set_option maxRecDepth 100000
open Go.RowKit

theorem r_cut (n : Int) (w : World) : Calls Try.prog 64 #[.int .i64 n] w fun e w' => e = .returned (.int .i64 (cutI n)) ∧ w' = w := by
  by_cases h1 : n < -1099511627776
  · have hc : cutI n = -1099511627776 := by unfold cutI; rw [if_pos h1]
    rw [hc]
    clear hc
    have h2 : n ≤ 1099511627776 := by omega
    go_enter Try.func64, Try.ntmps64
    go_wp2
    all_goals first | (exfalso; omega) | (go_ret; exact ⟨rfl, rfl⟩) | (go_ret; exact ⟨ret_i64 (by omega), rfl⟩)
  · by_cases h2 : 1099511627776 < n
    · have hc : cutI n = 1099511627776 := by unfold cutI; rw [if_neg h1, if_pos h2]
      rw [hc]
      clear hc
      go_enter Try.func64, Try.ntmps64
      go_wp2
      all_goals first | (exfalso; omega) | (go_ret; exact ⟨rfl, rfl⟩) | (go_ret; exact ⟨ret_i64 (by omega), rfl⟩)
    · have hc : cutI n = n := by unfold cutI; rw [if_neg h1, if_neg h2]
      rw [hc]
      clear hc
      go_enter Try.func64, Try.ntmps64
      go_wp2
      all_goals first | (exfalso; omega) | (go_ret; exact ⟨rfl, rfl⟩) | (go_ret; exact ⟨ret_i64 (by omega), rfl⟩)

end Go.Proofs.Ytjfenjnnpikkdaa
/- Layer 4, the document's answer: with, without, find, in plain Lean. -/
namespace Go.Proofs.Ytjfenjnnpikkdaa
set_option maxRecDepth 100000

/-- Are all keys below key? -/
def allLt : List Int → Int → Bool
  | k :: _ :: r, key => decide (k < key) && allLt r key
  | _, _ => true
theorem allLt_snoc {k v key : Int} : ∀ p : List Int, p.length % 2 = 0 → allLt (p ++ [k, v]) key = (allLt p key && decide (k < key))
  | a :: b :: r, h => by
    have ih := allLt_snoc (k := k) (v := v) (key := key) r (by simp at h; omega)
    simp only [List.cons_append, allLt, ih, Bool.and_assoc]
  | [a], h => by simp at h
  | [], _ => by simp [allLt]
theorem putR_lt {key n : Int} {q : List Int} : ∀ p : List Int, p.length % 2 = 0 → allLt p key = true → putR (p ++ q) key n = p ++ putR q key n
  | a :: b :: r, h, hl => by
    simp only [allLt, Bool.and_eq_true, decide_eq_true_eq] at hl
    have ih := putR_lt (key := key) (n := n) (q := q) r (by simp at h; omega) hl.2
    simp only [List.cons_append]
    rw [putR, if_pos hl.1, ih]
  | [a], h, _ => by simp at h
  | [], _, _ => rfl
theorem putR_done {key n k v : Int} : ∀ p : List Int, p.length % 2 = 0 → allLt p key = false → putR (p ++ [k, v]) key n = putR p key n ++ [k, v]
  | a :: b :: r, h, hl => by
    simp only [List.cons_append]
    rw [putR, putR]
    by_cases c : a < key
    · rw [if_pos c, if_pos c]
      have hl2 : allLt r key = false := by simpa [allLt, c] using hl
      rw [putR_done r (by simp at h; omega) hl2]
      rfl
    · rw [if_neg c, if_neg c]
      by_cases d : a = key
      · rw [if_pos d, if_pos d]; rfl
      · rw [if_neg d, if_neg d]; rfl
  | [a], h, _ => by simp at h
  | [], _, hl => by simp [allLt] at hl
/-- Without a key. -/
def remR : List Int → Int → List Int
  | k :: v :: r, key => if k = key then remR r key else k :: v :: remR r key
  | l, _ => l
theorem remR_snoc {k v key : Int} : ∀ p : List Int, p.length % 2 = 0 → remR (p ++ [k, v]) key = remR p key ++ (if k = key then [] else [k, v])
  | a :: b :: r, h => by
    have ih := remR_snoc (k := k) (v := v) (key := key) r (by simp at h; omega)
    simp only [List.cons_append]
    rw [remR, remR, ih]
    by_cases c : a = key <;> simp [c]
  | [a], h => by simp at h
  | [], _ => by
    simp only [List.nil_append, remR]
theorem not_found_gt {least last key : Int} : ∀ {l : List Int}, pairsGo least last l = true → l.length % 2 = 0 → key ≤ last → foundB l key = false
  | k :: v :: r, h, _, hk => by
    rw [pairsGo_cons] at h
    rw [foundB_cons, if_neg (by omega)]
    simp; omega
  | [k], _, he, _ => by simp at he
  | [], _, _, _ => foundB_nil _
theorem remR_eq {least key : Int} : ∀ {l : List Int} {last : Int}, pairsGo least last l = true → l.length % 2 = 0 → remR l key = if foundB l key then delR l key else l
  | k :: v :: r, last, h, he => by
    rw [pairsGo_cons] at h
    have ih := remR_eq (key := key) h.2 (by simp at he; omega)
    rw [remR, delR, foundB_cons]
    by_cases c : k = key
    · subst c
      rw [if_pos rfl, ih, not_found_gt h.2 (by simp at he; omega) (Int.le_refl _)]
      simp
    · rw [if_neg c]
      by_cases d : k < key
      · rw [if_pos d, if_pos d, ih]
        split <;> rfl
      · rw [if_neg d, if_neg d, ih, not_found_gt h.2 (by simp at he; omega) (by omega)]
        simp [c]
  | [k], _, _, he => by simp at he
  | [], _, _, _ => by simp [remR, delR]
def findZ (l : List Int) (key : Int) : Int := if foundB l key then (findI l key : Int) else -1
theorem found_at {least key : Int} : ∀ {l : List Int} {last : Int} (e : Nat), pairsGo least last l = true → l.length % 2 = 0 → e % 2 = 0 → e < l.length → l.getD e 0 = key → foundB l key = true ∧ findI l key = e ∧ last < key
  | k :: v :: r, last, e, h, he, h2, h3, h4 => by
    rw [pairsGo_cons] at h
    rw [foundB_cons, findI]
    rcases e with _ | _ | e
    · simp only [List.getD_cons_zero] at h4
      subst h4
      simp; omega
    · omega
    · have h4' : r.getD e 0 = key := by simpa using h4
      have ih := found_at (last := k) e h.2 (by simp at he; omega) (by omega) (by simp at h3; omega) h4'
      rw [if_pos ih.2.2, if_pos ih.2.2]
      exact ⟨ih.1, by omega, by omega⟩
  | [k], _, _, _, he, _, _, _ => by simp at he
  | [], _, _, _, _, _, h3, _ => by simp at h3
theorem findZ_at {least last key : Int} {l : List Int} (e : Nat) (h : pairsGo least last l = true) (he : l.length % 2 = 0) (h2 : e % 2 = 0) (h3 : e < l.length) (h4 : l.getD e 0 = key) : findZ l key = e := by
  obtain ⟨h5, h6, _⟩ := found_at e h he h2 h3 h4
  unfold findZ
  rw [if_pos h5, h6]
theorem findZ_none {key : Int} {l : List Int} (h : ∀ e, e % 2 = 0 → e < l.length → l.getD e 0 ≠ key) : findZ l key = -1 := by
  unfold findZ
  cases hf : foundB l key
  · rfl
  · exfalso
    unfold foundB at hf
    simp only [Bool.and_eq_true, decide_eq_true_eq, beq_iff_eq] at hf
    exact h _ (findI_even l key) hf.1 hf.2
end Go.Proofs.Ytjfenjnnpikkdaa
/- Layer 4 in plain Lean: two puts of keys that differ. -/
namespace Go.Proofs.Ytjfenjnnpikkdaa
set_option maxRecDepth 100000

theorem putR_cons (k v key n : Int) (r : List Int) : putR (k :: v :: r) key n = if k < key then k :: v :: putR r key n else if k = key then k :: n :: r else key :: n :: k :: v :: r := by rw [putR]
theorem putR_nil (key n : Int) : putR [] key n = [key, n] := by rw [putR]; simp
theorem putR_comm {a b x y : Int} (h : a ≠ b) : ∀ l : List Int, l.length % 2 = 0 → putR (putR l a x) b y = putR (putR l b y) a x
  | k :: v :: r, he => by
    have ih := putR_comm (x := x) (y := y) h r (by simp at he; omega)
    rw [putR_cons k v a, putR_cons k v b]
    rcases (by omega : k < a ∨ k = a ∨ a < k) with h1 | rfl | h1 <;> rcases (by omega : k < b ∨ k = b ∨ b < k) with h2 | rfl | h2
    · simp only [if_pos h1, if_pos h2, putR_cons, ih]
    · simp only [if_pos h1, Int.lt_irrefl, if_false, if_true, putR_cons]
    · simp only [if_pos h1, if_neg (show ¬ k < b by omega), if_neg (show ¬ k = b by omega), if_pos (show b < a by omega), putR_cons]
    · simp only [if_pos h2, Int.lt_irrefl, if_false, if_true, putR_cons]
    · exact absurd rfl h
    · simp only [Int.lt_irrefl, if_false, if_true, if_neg (show ¬ k < b by omega), if_neg (show ¬ k = b by omega), if_pos (show b < k by omega), putR_cons]
    · simp only [if_pos h2, if_neg (show ¬ k < a by omega), if_neg (show ¬ k = a by omega), if_pos (show a < b by omega), putR_cons]
    · simp only [Int.lt_irrefl, if_false, if_true, if_neg (show ¬ k < a by omega), if_neg (show ¬ k = a by omega), if_pos (show a < k by omega), putR_cons]
    · simp only [if_neg (show ¬ k < a by omega), if_neg (show ¬ k = a by omega), if_neg (show ¬ k < b by omega), if_neg (show ¬ k = b by omega), putR_cons]
      rcases (by omega : a < b ∨ b < a) with h3 | h3
      · simp only [if_pos h3, if_neg (show ¬ b < a by omega), if_neg (show ¬ b = a by omega)]
      · simp only [if_pos h3, if_neg (show ¬ a < b by omega), if_neg h]
  | [k], he => by simp at he
  | [], _ => by
    simp only [putR_nil, putR_cons]
    rcases (by omega : a < b ∨ b < a) with h3 | h3
    · simp only [if_pos h3, if_neg (show ¬ b < a by omega), if_neg (show ¬ b = a by omega)]
    · simp only [if_pos h3, if_neg (show ¬ a < b by omega), if_neg h]
end Go.Proofs.Ytjfenjnnpikkdaa
/- Layer 4, the document's answer: Same. -/
namespace Go.Proofs.Ytjfenjnnpikkdaa
set_option maxRecDepth 100000
open Go.RowKit

set_option maxRecDepth 100000 in
set_option maxHeartbeats 3200000 in
theorem r_same {w : World} {vl ul : Value} (s t : St) (hx : Rd w vl s.L) (hy : Rd w ul t.L) :
    Calls Try.prog 19 #[.agg #[.int .i64 s.kind, vl, .bool s.isSealed, .int .i64 s.to], .agg #[.int .i64 t.kind, ul, .bool t.isSealed, .int .i64 t.to]] w (Tells w (sameB s t)) := by
  obtain ⟨kd, xs, b, d⟩ := s
  obtain ⟨kd', ys, b', d'⟩ := t
  simp only at hx hy ⊢
  have hB : ∀ q, Below w.heap.size w (((w.alloc (.cells #[.int .i64 kd, vl, .bool b, .int .i64 d] 24)).alloc (.cells #[.int .i64 kd', ul, .bool b', .int .i64 d'] 24)).drewN q) := fun q => (((Below.refl _ w).alloc (Nat.le_refl _) _).alloc (by simp) _).trans ⟨rfl, rfl, rfl, Nat.le_refl _, fun _ _ => rfl⟩
  have HB := Lib.hid hB
  have HB0 := Lib.hid (hB 0)
  obtain ⟨n, a, c, f, rfl, hn, hnc, hcm, hf, hv⟩ := hx.view
  obtain ⟨m, a2, c2, g, rfl, hm, hmc, hcm2, hg, hv2⟩ := hy.view
  clear hx hy hB
  have e : sameB ⟨kd, xs, b, d⟩ ⟨kd', ys, b', d'⟩ = ((kd == kd') && (b == b') && (d == d') && decide (xs = ys)) := by
    unfold sameB; simp only
    congr 1
    by_cases h : xs = ys <;> simp [h]
  rw [e]
  clear e
  have HV := Lib.hid hv
  have HV2 := Lib.hid hv2
  have HN := Lib.hid hn
  have HM := Lib.hid hm
  have HF := Lib.hid hf
  have HG := Lib.hid hg
  clear hv hv2 hn hm hf hg
  by_cases h1 : kd = kd'
  case neg =>
    have h1' : (kd == kd') = false := by simpa using h1
    have h1'' : (kd != kd') = true := by simpa using h1
    rw [h1']
    clear h1 h1'
    go_enter Try.func19, Try.ntmps19
    go_wp2_with fail
    go_ret
    exact ⟨rfl, HB0.out⟩
  subst h1
  have kk : (kd != kd) = false := by simp
  have bb : b = b' ∨ (b = true ∧ b' = false) ∨ (b = false ∧ b' = true) := by cases b <;> cases b' <;> simp
  rcases bb with rfl | ⟨rfl, rfl⟩ | ⟨rfl, rfl⟩
  case inr.inl =>
    simp only [show (true == false) = false from rfl, Bool.and_false, Bool.false_and]
    go_enter Try.func19, Try.ntmps19
    go_wp2_with fail
    go_ret
    exact ⟨rfl, HB0.out⟩
  case inr.inr =>
    simp only [show (false == true) = false from rfl, Bool.and_false, Bool.false_and]
    go_enter Try.func19, Try.ntmps19
    go_wp2_with fail
    go_ret
    exact ⟨rfl, HB0.out⟩
  have bb : (b != b) = false := by simp
  by_cases h3 : d = d'
  case neg =>
    have h1' : (d == d') = false := by simpa using h3
    have h1'' : (d != d') = true := by simpa using h3
    rw [h1']
    simp only [Bool.and_false, Bool.false_and]
    clear h1' h3
    go_enter Try.func19, Try.ntmps19
    go_wp2_with fail
    go_ret
    exact ⟨rfl, HB0.out⟩
  subst h3
  have dd : (d != d) = false := by simp
  simp only [beq_self_eq_true, Bool.true_and]
  by_cases hnm : n = m
  · subst hnm
    have hne : ((n : Int) != n) = false := by simp
    go_enter Try.func19, Try.ntmps19
    go_wp2_with fail
    go_loopw [5] (fun i wr => ∃ k : Nat, k ≤ n ∧ i = .int .i64 k ∧ (∃ q, wr = ((w.alloc (.cells #[.int .i64 kd, .slice a n c, .bool b, .int .i64 d] 24)).alloc (.cells #[.int .i64 kd, .slice a2 n c2, .bool b, .int .i64 d] 24)).drewN q) ∧ ∀ j, j < k → f j = g j) (fun i _ => n - (intOf i).toNat)
    case atStart => exact ⟨0, Nat.zero_le _, rfl, ⟨0, rfl⟩, by intro j hj; omega⟩
    case round =>
      obtain ⟨k, hk, rfl, ⟨q, rfl⟩, hfg⟩ := hrel
      have HE := Lib.hid hfg
      clear hfg
      by_cases hlt : k < n
      · obtain ⟨b1, o, rfl, hb, hc⟩ := HV.out (by omega)
        obtain ⟨b2, o2, rfl, hb2, hc2⟩ := HV2.out (by omega)
        have h1 := hc k hlt
        have h2 := hc2 k hlt
        clear hc hc2
        obtain ⟨fk, hfk⟩ : ∃ fk, fk = f k := ⟨_, rfl⟩
        obtain ⟨gk, hgk⟩ : ∃ gk, gk = g k := ⟨_, rfl⟩
        rw [← hfk] at h1
        rw [← hgk] at h2
        have HFK := Lib.hid hfk
        have HGK := Lib.hid hgk
        clear hfk hgk
        by_cases he : fk = gk
        · subst he
          have hnb : (fk != fk) = false := by simp
          go_wp2_with fail
          go_quiet (fail)
          go_wp2_with fail
          go_roundw
          case rel => exact ⟨k + 1, by omega, by go_num, ⟨_, rfl⟩, fun j hj => by
            rcases Nat.lt_or_ge j k with h | h
            · exact HE.out j h
            · obtain rfl : j = k := by omega
              rw [← HFK.out, ← HGK.out]⟩
          case measure => simp [intOf]; omega
        · have hnb : (fk != gk) = true := by simpa using he
          have fin : xs ≠ ys := by
            refine getD_ne (k := k) ?_
            rw [← HF.out, ← HG.out, ← HFK.out, ← HGK.out]
            exact he
          have FIN := Lib.hid fin
          clear fin he
          go_wp2_with fail
          go_quiet (fail)
          go_wp2_with fail
          go_ret
          exact ⟨by rw [decide_eq_false FIN.out]; rfl, by rw [World.drewN_drewN]; exact HB.out _⟩
      · obtain rfl : k = n := by omega
        have fin : xs = ys := list_eq_of (by rw [← HN.out, ← HM.out]) (fun j hj => by rw [← HF.out, ← HG.out]; exact HE.out j (by rw [HN.out]; exact hj))
        have FIN := Lib.hid fin
        clear fin
        go_wp2_with fail
        go_ret
        exact ⟨by rw [decide_eq_true FIN.out]; rfl, HB.out _⟩
  · have hne : ((n : Int) != m) = true := by simp; omega
    have fin : xs ≠ ys := fun e => hnm (by rw [HN.out, HM.out, e])
    rw [decide_eq_false fin]
    clear fin hnm
    go_enter Try.func19, Try.ntmps19
    go_wp2_with fail
    go_ret
    exact ⟨rfl, HB0.out⟩
end Go.Proofs.Ytjfenjnnpikkdaa
/- Layer 4, the document's answer: pairs. -/
namespace Go.Proofs.Ytjfenjnnpikkdaa
set_option maxRecDepth 100000
open Go.RowKit

def lastE (last : Int) (l : List Int) (e : Nat) : Int := if e = 0 then last else l.getD (e - 2) 0
def okE (least last : Int) (l : List Int) (e : Nat) : Prop := lastE last l e < l.getD e 0 ∧ l.getD e 0 ≤ 255 ∧ least ≤ l.getD (e + 1) 0 ∧ l.getD (e + 1) 0 ≤ 1099511627776
theorem okE_succ {least last k v : Int} {r : List Int} {e : Nat} (he : e % 2 = 0) : okE least last (k :: v :: r) (e + 2) ↔ okE least k r e := by
  have h1 : (k :: v :: r).getD (e + 2) 0 = r.getD e 0 := by simp
  have h2 : (k :: v :: r).getD (e + 2 + 1) 0 = r.getD (e + 1) 0 := by
    rw [show e + 2 + 1 = (e + 1) + 1 + 1 by omega]
    simp
  have h3 : lastE last (k :: v :: r) (e + 2) = lastE k r e := by
    unfold lastE
    rw [if_neg (by omega)]
    by_cases h : e = 0
    · subst h; simp
    · rw [if_neg h]
      obtain ⟨m, rfl⟩ : ∃ m, e = m + 1 := ⟨e - 1, by omega⟩
      rcases m with _ | m
      · omega
      · simp
  unfold okE
  rw [h1, h2, h3]
theorem pairsGo_iff : ∀ (least last : Int) (l : List Int), l.length % 2 = 0 → (pairsGo least last l = true ↔ ∀ e, e % 2 = 0 → e < l.length → okE least last l e)
  | least, last, k :: v :: r, he => by
    have ih := pairsGo_iff least k r (by simp at he; omega)
    rw [pairsGo_cons, ih]
    constructor
    · rintro ⟨h1, h2⟩ e h3 h4
      rcases e with _ | _ | e
      · simpa [okE, lastE] using h1
      · omega
      · rw [okE_succ (by omega)]; exact h2 e (by omega) (by simp at h4; omega)
    · intro h
      refine ⟨by simpa [okE, lastE] using h 0 rfl (by simp), fun e h3 h4 => ?_⟩
      have := h (e + 2) (by omega) (by simp; omega)
      rwa [okE_succ h3] at this
  | _, _, [k], he => by simp at he
  | _, _, [], _ => by simp [pairsGo]

theorem okE_nonneg {least : Int} {l : List Int} : ∀ (e : Nat), e % 2 = 0 → (∀ d, d % 2 = 0 → d ≤ e → okE least (-1) l d) → 0 ≤ l.getD e 0
  | 0, _, h => by
    have := (h 0 rfl (Nat.le_refl _)).1
    simp only [lastE, if_pos] at this
    omega
  | 1, he, _ => by omega
  | e + 2, he, h => by
    have ih := okE_nonneg e (by omega) (fun d h1 h2 => h d h1 (by omega))
    have := (h (e + 2) he (Nat.le_refl _)).1
    rw [lastE, if_neg (by omega)] at this
    simp only [Nat.add_sub_cancel] at this
    omega

set_option maxRecDepth 100000 in
set_option maxHeartbeats 6400000 in
theorem r_pairs {w : World} {v : Value} {xs : List Int} (hx : Rd w v xs) (least : Int) :
    Calls Try.prog 63 #[v, .int .i64 least] w (Tells w (pairsB xs least)) := by
  obtain ⟨n, a, c, f, rfl, hn, hnc, hcm, hf, hv⟩ := hx.view
  clear hx
  have HB := Lib.hid (fun q => (⟨rfl, rfl, rfl, Nat.le_refl _, fun _ _ => rfl⟩ : Below w.heap.size w (w.drewN q)))
  have HB0 := Lib.hid (Below.refl w.heap.size w)
  by_cases h2 : n % 2 = 0
  case neg =>
    have e : pairsB xs least = false := by
      cases h : pairsB xs least
      · rfl
      · have := (pairsB_iff.1 h).2.1; omega
    have g1 : ((n : Int) % 2 != 0) = true := by
      have : (n : Int) % 2 = 1 := by omega
      rw [this]; rfl
    rw [e]
    clear e hv hf hn h2
    go_enter Try.func63, Try.ntmps63
    go_wp2_with fail
    go_ret
    exact ⟨rfl, HB0.out⟩
  have g1 : ((n : Int) % 2 != 0) = false := by
    have : (n : Int) % 2 = 0 := by omega
    rw [this]; rfl
  by_cases h128 : n ≤ 128
  case neg =>
    have e : pairsB xs least = false := by
      cases h : pairsB xs least
      · rfl
      · have := (pairsB_iff.1 h).2.2; omega
    have g2 : 128 < (n : Int) := by omega
    rw [e]
    clear e hv hf hn h2 h128
    go_enter Try.func63, Try.ntmps63
    go_wp2_with fail
    go_ret
    exact ⟨rfl, HB0.out⟩
  have g2 : ¬ 128 < (n : Int) := by omega
  have hP : pairsB xs least = pairsGo least (-1) xs := by
    have h1 : xs.length % 2 = 0 := by omega
    have h3 : xs.length ≤ 128 := by omega
    simp [pairsB, h1, h3]
  have hI := pairsGo_iff least (-1) xs (by omega)
  rw [hP]
  clear hP
  have HI := Lib.hid hI
  have HV := Lib.hid hv
  have HN := Lib.hid hn
  have HF := Lib.hid hf
  clear hI hv hn hf
  go_enter Try.func63, Try.ntmps63
  go_wp2_with fail
  go_loopw [5] (fun i wr => ∃ e : Nat, e ≤ n ∧ e % 2 = 0 ∧ i = .int .i64 e ∧ (∃ q, wr = w.drewN q) ∧ Hid (∀ d, d % 2 = 0 → d < e → okE least (-1) xs d)) (fun i _ => n - (intOf i).toNat)
  case atStart => exact ⟨0, Nat.zero_le _, rfl, rfl, ⟨0, rfl⟩, fun d _ h => by omega⟩
  case round =>
    obtain ⟨e, he, he2, rfl, ⟨q, rfl⟩, HE⟩ := hrel
    by_cases hlt : e < n
    · have hx0 := HF.out e
      obtain ⟨bb, o, rfl, hb, hc⟩ := HV.out (by omega)
      have hc0 := hc e hlt
      have hc1 := hc (e + 1) (by omega)
      have hcp := hc (e - 2) (by omega)
      have hlt1 : e + 1 < n := by omega
      clear hx0
      obtain ⟨x, hfx⟩ : ∃ x, f e = x := ⟨_, rfl⟩
      obtain ⟨y, hfy⟩ : ∃ y, f (e + 1) = y := ⟨_, rfl⟩
      obtain ⟨p, hfp⟩ : ∃ p, f (e - 2) = p := ⟨_, rfl⟩
      rw [hfx] at hc0
      rw [hfy] at hc1
      rw [hfp] at hcp
      have FX := Lib.hid hfx
      have FY := Lib.hid hfy
      have FP := Lib.hid hfp
      clear hfx hfy hfp hc
      have hok : okE least (-1) xs e ↔ ((if e = 0 then -1 else p) < x ∧ x ≤ 255 ∧ least ≤ y ∧ y ≤ 1099511627776) := by
        unfold okE lastE
        rw [← HF.out, ← HF.out, ← HF.out, FX.out, FY.out, FP.out]
      have hbad : ¬ okE least (-1) xs e → pairsGo least (-1) xs = false := fun h => by
        cases hp : pairsGo least (-1) xs
        · rfl
        · exact absurd (HI.out.1 hp e he2 (by rw [← HN.out]; exact hlt)) h
      have hgood : okE least (-1) xs e → ∀ d, d % 2 = 0 → d < e + 2 → okE least (-1) xs d := fun h d h1 h2 => by
        rcases Nat.lt_or_ge d e with h3 | h3
        · exact HE.out d h1 h3
        · obtain rfl : d = e := by omega
          exact h
      have hp0 : e ≠ 0 → 0 ≤ p := fun h => by
        rw [← FP.out, HF.out]
        exact okE_nonneg (least := least) (e - 2) (by omega) (fun d h1 h2 => HE.out d h1 (by omega))
      rw [hok] at hbad hgood
      clear hok FX FY FP HE
      by_cases he0 : e = 0
      · subst he0
        simp only [if_pos] at hbad hgood
        simp only [Nat.add_zero, Nat.zero_add] at hc0 hc1 hlt1
        clear hcp
        rcases (by omega : x < 0 ∨ (0 ≤ x ∧ 255 < x) ∨ (0 ≤ x ∧ x ≤ 255 ∧ y < least) ∨ (0 ≤ x ∧ x ≤ 255 ∧ least ≤ y ∧ 1099511627776 < y) ∨ (0 ≤ x ∧ x ≤ 255 ∧ least ≤ y ∧ y ≤ 1099511627776)) with h1 | ⟨h1, h2⟩ | ⟨h1, h2, h3⟩ | ⟨h1, h2, h3, h4⟩ | ⟨h1, h2, h3, h4⟩
        · have FIN := Lib.hid (hbad (by omega))
          clear hbad hgood hp0
          go_wp2_with fail
          go_quiet (fail)
          go_wp2_with fail
          go_ret
          exact ⟨by rw [FIN.out]; rfl, by rw [World.drewN_drewN]; exact HB.out _⟩
        · have FIN := Lib.hid (hbad (by omega))
          clear hbad hgood hp0
          have d1 := decide_eq_false (show ¬ x < 0 by omega)
          go_wp2_with fail
          go_quiet (fail)
          go_wp2_with fail
          go_ret
          exact ⟨by rw [FIN.out]; rfl, by rw [World.drewN_drewN]; exact HB.out _⟩
        · have FIN := Lib.hid (hbad (by omega))
          clear hbad hgood hp0
          have d1 := decide_eq_false (show ¬ x < 0 by omega)
          have d2 := decide_eq_false (show ¬ 255 < x by omega)
          go_wp2_with fail
          go_quiet (fail)
          go_wp2_with fail
          go_ret
          exact ⟨by rw [FIN.out]; rfl, by rw [World.drewN_drewN]; exact HB.out _⟩
        · have FIN := Lib.hid (hbad (by omega))
          clear hbad hgood hp0
          have d1 := decide_eq_false (show ¬ x < 0 by omega)
          have d2 := decide_eq_false (show ¬ 255 < x by omega)
          have d4 := decide_eq_false (show ¬ y < least by omega)
          go_wp2_with fail
          go_quiet (fail)
          go_wp2_with fail
          go_ret
          exact ⟨by rw [FIN.out]; rfl, by rw [World.drewN_drewN]; exact HB.out _⟩
        · have GD := Lib.hid (hgood (by omega))
          clear hbad hgood hp0
          have d1 := decide_eq_false (show ¬ x < 0 by omega)
          have d2 := decide_eq_false (show ¬ 255 < x by omega)
          have d4 := decide_eq_false (show ¬ y < least by omega)
          have d5 := decide_eq_false (show ¬ 1099511627776 < y by omega)
          go_wp2_with fail
          go_quiet (fail)
          go_wp2_with fail
          go_roundw
          case rel => exact ⟨2, by omega, by omega, by go_num, ⟨_, rfl⟩, GD.out⟩
          case measure => simp [intOf]; omega
      · have hp := hp0 he0
        rw [if_neg he0] at hbad hgood
        obtain ⟨d, rfl⟩ : ∃ d, e = d + 2 := ⟨e - 2, by omega⟩
        simp only [Nat.add_sub_cancel] at hcp
        clear he0
        rcases (by omega : x < 0 ∨ (0 ≤ x ∧ 255 < x) ∨ (0 ≤ x ∧ x ≤ 255 ∧ x ≤ p) ∨ (0 ≤ x ∧ x ≤ 255 ∧ p < x ∧ y < least) ∨ (0 ≤ x ∧ x ≤ 255 ∧ p < x ∧ least ≤ y ∧ 1099511627776 < y) ∨ (0 ≤ x ∧ x ≤ 255 ∧ p < x ∧ least ≤ y ∧ y ≤ 1099511627776)) with h1 | ⟨h1, h2⟩ | ⟨h1, h2, h3⟩ | ⟨h1, h2, h3, h4⟩ | ⟨h1, h2, h3, h4, h5⟩ | ⟨h1, h2, h3, h4, h5⟩
        · have FIN := Lib.hid (hbad (by omega))
          clear hbad hgood hp0
          go_wp2_with fail
          go_quiet (fail)
          go_wp2_with fail
          go_ret
          exact ⟨by rw [FIN.out]; rfl, by rw [World.drewN_drewN]; exact HB.out _⟩
        · have FIN := Lib.hid (hbad (by omega))
          clear hbad hgood hp0
          have d1 := decide_eq_false (show ¬ x < 0 by omega)
          go_wp2_with fail
          go_quiet (fail)
          go_wp2_with fail
          go_ret
          exact ⟨by rw [FIN.out]; rfl, by rw [World.drewN_drewN]; exact HB.out _⟩
        · have FIN := Lib.hid (hbad (by omega))
          clear hbad hgood hp0
          have d1 := decide_eq_false (show ¬ x < 0 by omega)
          have d2 := decide_eq_false (show ¬ 255 < x by omega)
          have w3 : ((d : Int) + 2 + 1).toNat = d + 2 + 1 := by omega
          have w4 : (0 : Int) ≤ (d : Int) + 2 + 1 := by omega
          have w5 : (d : Int) + 2 + 1 < n := by omega
          have w6 : (0 : Int) ≤ (d : Int) + 2 := by omega
          have w7 : ((d : Int) + 2).toNat = d + 2 := by omega
          have w8 : (d : Int) + 2 < n := by omega
          have w9 : (d : Int) < n := by omega
          have wa : decide ((0 : Int) < (d : Int) + 2) = true := decide_eq_true (by omega)
          have w1 : IntKind.i64.wrap ((d : Int) + 2 - 2) = (d : Int) := by rw [IntWalk.i64_in _ (by omega)]; omega
          have w2 : IntKind.i64.wrap ((d : Int) + 2 + 1) = (d : Int) + 2 + 1 := IntWalk.i64_in _ (by omega)
          go_wp2_with fail
          go_quiet (fail)
          clear w1 w2 w3 w4 w5 w6 w7 w8 w9 wa
          go_wp2_with fail
          go_ret
          exact ⟨by rw [FIN.out]; rfl, by rw [World.drewN_drewN]; exact HB.out _⟩
        · have FIN := Lib.hid (hbad (by omega))
          clear hbad hgood hp0
          have d1 := decide_eq_false (show ¬ x < 0 by omega)
          have d2 := decide_eq_false (show ¬ 255 < x by omega)
          have d3 := decide_eq_false (show ¬ x ≤ p by omega)
          have w3 : ((d : Int) + 2 + 1).toNat = d + 2 + 1 := by omega
          have w4 : (0 : Int) ≤ (d : Int) + 2 + 1 := by omega
          have w5 : (d : Int) + 2 + 1 < n := by omega
          have w6 : (0 : Int) ≤ (d : Int) + 2 := by omega
          have w7 : ((d : Int) + 2).toNat = d + 2 := by omega
          have w8 : (d : Int) + 2 < n := by omega
          have w9 : (d : Int) < n := by omega
          have wa : decide ((0 : Int) < (d : Int) + 2) = true := decide_eq_true (by omega)
          have w1 : IntKind.i64.wrap ((d : Int) + 2 - 2) = (d : Int) := by rw [IntWalk.i64_in _ (by omega)]; omega
          have w2 : IntKind.i64.wrap ((d : Int) + 2 + 1) = (d : Int) + 2 + 1 := IntWalk.i64_in _ (by omega)
          go_wp2_with fail
          go_quiet (fail)
          clear w1 w2 w3 w4 w5 w6 w7 w8 w9 wa
          go_wp2_with fail
          go_ret
          exact ⟨by rw [FIN.out]; rfl, by rw [World.drewN_drewN]; exact HB.out _⟩
        · have FIN := Lib.hid (hbad (by omega))
          clear hbad hgood hp0
          have d1 := decide_eq_false (show ¬ x < 0 by omega)
          have d2 := decide_eq_false (show ¬ 255 < x by omega)
          have d3 := decide_eq_false (show ¬ x ≤ p by omega)
          have d4 := decide_eq_false (show ¬ y < least by omega)
          have w3 : ((d : Int) + 2 + 1).toNat = d + 2 + 1 := by omega
          have w4 : (0 : Int) ≤ (d : Int) + 2 + 1 := by omega
          have w5 : (d : Int) + 2 + 1 < n := by omega
          have w6 : (0 : Int) ≤ (d : Int) + 2 := by omega
          have w7 : ((d : Int) + 2).toNat = d + 2 := by omega
          have w8 : (d : Int) + 2 < n := by omega
          have w9 : (d : Int) < n := by omega
          have wa : decide ((0 : Int) < (d : Int) + 2) = true := decide_eq_true (by omega)
          have w1 : IntKind.i64.wrap ((d : Int) + 2 - 2) = (d : Int) := by rw [IntWalk.i64_in _ (by omega)]; omega
          have w2 : IntKind.i64.wrap ((d : Int) + 2 + 1) = (d : Int) + 2 + 1 := IntWalk.i64_in _ (by omega)
          go_wp2_with fail
          go_quiet (fail)
          clear w1 w2 w3 w4 w5 w6 w7 w8 w9 wa
          go_wp2_with fail
          go_ret
          exact ⟨by rw [FIN.out]; rfl, by rw [World.drewN_drewN]; exact HB.out _⟩
        · have GD := Lib.hid (hgood (by omega))
          clear hbad hgood hp0
          have d1 := decide_eq_false (show ¬ x < 0 by omega)
          have d2 := decide_eq_false (show ¬ 255 < x by omega)
          have d3 := decide_eq_false (show ¬ x ≤ p by omega)
          have d4 := decide_eq_false (show ¬ y < least by omega)
          have d5 := decide_eq_false (show ¬ 1099511627776 < y by omega)
          have w3 : ((d : Int) + 2 + 1).toNat = d + 2 + 1 := by omega
          have w4 : (0 : Int) ≤ (d : Int) + 2 + 1 := by omega
          have w5 : (d : Int) + 2 + 1 < n := by omega
          have w6 : (0 : Int) ≤ (d : Int) + 2 := by omega
          have w7 : ((d : Int) + 2).toNat = d + 2 := by omega
          have w8 : (d : Int) + 2 < n := by omega
          have w9 : (d : Int) < n := by omega
          have wa : decide ((0 : Int) < (d : Int) + 2) = true := decide_eq_true (by omega)
          have w1 : IntKind.i64.wrap ((d : Int) + 2 - 2) = (d : Int) := by rw [IntWalk.i64_in _ (by omega)]; omega
          have w2 : IntKind.i64.wrap ((d : Int) + 2 + 1) = (d : Int) + 2 + 1 := IntWalk.i64_in _ (by omega)
          go_wp2_with fail
          go_quiet (fail)
          clear w1 w2 w3 w4 w5 w6 w7 w8 w9 wa
          go_wp2_with fail
          go_roundw
          case rel => exact ⟨d + 2 + 2, by omega, by omega, by go_num, ⟨_, rfl⟩, GD.out⟩
          case measure => simp [intOf]; omega
    · obtain rfl : e = n := by omega
      have fin : pairsGo least (-1) xs = true := HI.out.2 (fun d h1 h2 => HE.out d h1 (by rw [HN.out]; exact h2))
      have FIN := Lib.hid fin
      clear fin
      go_wp2_with fail
      go_ret
      exact ⟨by rw [FIN.out]; rfl, HB.out _⟩
end Go.Proofs.Ytjfenjnnpikkdaa
/- Layer 4, the document's answer: May. -/
namespace Go.Proofs.Ytjfenjnnpikkdaa
set_option maxRecDepth 100000
open Go.RowKit

theorem r_cutq (n : Int) (W : World) : Calls Try.prog 64 #[.int .i64 n] W fun e w' => e = .returned (.int .i64 (cutI n)) ∧ ∃ q, w' = W.drewN q := (r_cut n W).mono fun _ _ ⟨h1, h2⟩ => ⟨h1, 0, h2⟩
theorem within_false {l : List Int} {k : Nat} (hk : k < l.length) (h : l.getD k 0 ≠ cutI (l.getD k 0)) : withinB l = false := by
  cases hw : withinB l
  · rfl
  · unfold withinB at hw
    simp only [Bool.not_eq_true', List.any_eq_false, bne_iff_ne, ne_eq, Decidable.not_not] at hw
    refine absurd (hw _ ?_) h
    rw [List.getD_eq_getElem?_getD, List.getElem?_eq_getElem hk]
    simp
theorem within_true {l : List Int} (h : ∀ k, k < l.length → l.getD k 0 = cutI (l.getD k 0)) : withinB l = true := by
  unfold withinB
  simp only [Bool.not_eq_true', List.any_eq_false, bne_iff_ne, ne_eq, Decidable.not_not]
  intro x hx
  obtain ⟨k, hk, rfl⟩ := List.getElem_of_mem hx
  have := h k hk
  rwa [List.getD_eq_getElem?_getD, List.getElem?_eq_getElem hk] at this

set_option maxRecDepth 100000 in
set_option maxHeartbeats 6400000 in
theorem r_may {w : World} {vl : Value} (s : St) (hx : Rd w vl s.L) :
    Calls Try.prog 42 #[.agg #[.int .i64 s.kind, vl, .bool s.isSealed, .int .i64 s.to]] w (Tells w (mayB s)) := by
  obtain ⟨kd, xs, b, t⟩ := s
  simp only at hx ⊢
  have hB : ∀ q, Below w.heap.size w ((w.alloc (.cells #[.int .i64 kd, vl, .bool b, .int .i64 t] 24)).drewN q) := fun q => ((Below.refl _ w).alloc (Nat.le_refl _) _).trans ⟨rfl, rfl, rfl, Nat.le_refl _, fun _ _ => rfl⟩
  have HB := Lib.hid hB
  have HB0 := Lib.hid (hB 0)
  have HP := fun W least (h : Below w.heap.size w W) => Lib.hid (r_pairs (w := W) (hx.below h (Nat.le_refl _)) least)
  obtain ⟨n, a, c, f, rfl, hn, hnc, hcm, hf, hv⟩ := hx.view
  have HV := Lib.hid hv
  have HN := Lib.hid hn
  have HF := Lib.hid hf
  clear hv hn hf hx hB
  have h1 : t < 0 → mayB ⟨kd, xs, b, t⟩ = false := fun h => by unfold mayB; rw [if_pos (.inl h)]
  have h2 : 2 < t → mayB ⟨kd, xs, b, t⟩ = false := fun h => by unfold mayB; rw [if_pos (.inr (.inl (by simp only; omega)))]
  have h3 : b = false ∧ t ≠ 0 → mayB ⟨kd, xs, b, t⟩ = false := fun h => by unfold mayB; rw [if_pos (.inr (.inr h))]
  have hmay := @mayB_iff ⟨kd, xs, b, t⟩
  simp only at hmay
  generalize mayB ⟨kd, xs, b, t⟩ = mb at *
  by_cases ht1 : t < 0
  · obtain rfl := h1 ht1
    clear h1 h2 h3 hmay
    go_enter Try.func42, Try.ntmps42
    go_wp2_with fail
    go_ret
    exact ⟨rfl, HB0.out⟩
  by_cases ht2 : 2 < t
  · obtain rfl := h2 ht2
    clear h1 h2 h3 hmay
    go_enter Try.func42, Try.ntmps42
    go_wp2_with fail
    go_ret
    exact ⟨rfl, HB0.out⟩
  by_cases ht3 : b = false ∧ t ≠ 0
  · obtain rfl := h3 ht3
    obtain ⟨rfl, h0⟩ := ht3
    have h0' : (t != 0) = true := by simpa using h0
    clear h1 h2 h3 hmay h0
    go_enter Try.func42, Try.ntmps42
    go_wp2_with fail
    go_ret
    exact ⟨rfl, HB0.out⟩
  have hbt : b = true ∨ (b = false ∧ t = 0) := by
    cases b
    · right
      refine ⟨rfl, ?_⟩
      by_cases h0 : t = 0
      · exact h0
      · exact absurd ⟨rfl, h0⟩ ht3
    · exact .inl rfl
  have hto : ToOk ⟨kd, xs, b, t⟩ := by
    refine ⟨by simp only; omega, by simp only; omega, fun e => ?_⟩
    simp only at e ⊢
    rcases hbt with h | h
    · rw [h] at e; cases e
    · exact h.2
  have hm1 : (kd < 0 ∨ 6 ≤ kd) → mb = false := fun h => by
    cases mb
    · rfl
    · have := (hmay.1 rfl).2; omega
  have hm4 : kd = 4 → mb = pairsB xs (-1099511627776) := fun h => by
    rw [Bool.eq_iff_iff, hmay]
    constructor
    · rintro ⟨_, h⟩; rcases h with ⟨h, _⟩ | ⟨h, _⟩ | ⟨_, h⟩ | ⟨h, _⟩
      · omega
      · omega
      · exact h
      · omega
    · exact fun e => ⟨hto, .inr (.inr (.inl ⟨h, e⟩))⟩
  have hm5 : kd = 5 → mb = pairsB xs 0 := fun h => by
    rw [Bool.eq_iff_iff, hmay]
    constructor
    · rintro ⟨_, h⟩; rcases h with ⟨h, _⟩ | ⟨h, _⟩ | ⟨h, _⟩ | ⟨_, h⟩
      · omega
      · omega
      · omega
      · exact h
    · exact fun e => ⟨hto, .inr (.inr (.inr ⟨h, e⟩))⟩
  have hm0 : (kd = 0 ∨ kd = 1) → mb = (decide (n = 1) && withinB xs) := fun h => by
    rw [Bool.eq_iff_iff, hmay, Bool.and_eq_true, decide_eq_true_eq, withinB_iff, HN.out]
    constructor
    · rintro ⟨_, h⟩; rcases h with ⟨_, h⟩ | ⟨h, _⟩ | ⟨h, _⟩ | ⟨h, _⟩
      · exact h
      all_goals omega
    · exact fun e => ⟨hto, .inl ⟨h, e⟩⟩
  have hm2 : (kd = 2 ∨ kd = 3) → mb = (decide (n ≤ 64) && withinB xs) := fun h => by
    rw [Bool.eq_iff_iff, hmay, Bool.and_eq_true, decide_eq_true_eq, withinB_iff, HN.out]
    constructor
    · rintro ⟨_, h⟩; rcases h with ⟨h, _⟩ | ⟨_, h⟩ | ⟨h, _⟩ | ⟨h, _⟩
      · omega
      · exact h
      all_goals omega
    · exact fun e => ⟨hto, .inr (.inl ⟨h, e⟩)⟩
  clear hmay h1 h2 h3 ht3 hto
  have hk : kd < 0 ∨ 6 ≤ kd ∨ kd = 4 ∨ kd = 5 ∨ ((kd = 0 ∨ kd = 1) ∧ n ≠ 1 ∧ ¬ 64 < n) ∨ ((kd = 0 ∨ kd = 1 ∨ kd = 2 ∨ kd = 3) ∧ 64 < n) ∨ ((kd = 0 ∨ kd = 1) ∧ n = 1) ∨ ((kd = 2 ∨ kd = 3) ∧ ¬ 64 < n) := by omega
  rcases hbt with rfl | ⟨rfl, rfl⟩
  · rcases hk with hk | hk | rfl | rfl | ⟨hk, hn1, hn64⟩ | ⟨hk, hn64⟩ | ⟨hk, hn1⟩ | ⟨hk, hn64⟩
    · obtain rfl := hm1 (.inl hk)
      clear hm0 hm1 hm2 hm4 hm5
      go_enter Try.func42, Try.ntmps42
      go_wp2_with fail
      go_ret
      exact ⟨rfl, HB0.out⟩
    · obtain rfl := hm1 (.inr hk)
      clear hm0 hm1 hm2 hm4 hm5
      go_enter Try.func42, Try.ntmps42
      go_wp2_with fail
      go_ret
      exact ⟨rfl, HB0.out⟩
    · have HP4 := HP _ (-1099511627776) HB0.out
      obtain rfl := hm4 rfl
      clear hm0 hm1 hm2 hm4 hm5 HP
      generalize pairsB xs (-1099511627776) = pb at *
      go_enter Try.func42, Try.ntmps42
      go_wp2_with fail
      refine HP4.out.mono ?_
      rintro e w1 ⟨rfl, hb1⟩
      have HB1 := Lib.hid (HB0.out.trans (hb1.mono (HB0.out.size)))
      clear hb1
      go_wp2_with fail
      go_ret
      exact ⟨rfl, HB1.out⟩
    · have HP4 := HP _ (0) HB0.out
      obtain rfl := hm5 rfl
      clear hm0 hm1 hm2 hm4 hm5 HP
      generalize pairsB xs (0) = pb at *
      go_enter Try.func42, Try.ntmps42
      go_wp2_with fail
      refine HP4.out.mono ?_
      rintro e w1 ⟨rfl, hb1⟩
      have HB1 := Lib.hid (HB0.out.trans (hb1.mono (HB0.out.size)))
      clear hb1
      go_wp2_with fail
      go_ret
      exact ⟨rfl, HB1.out⟩
    · obtain rfl : mb = false := by rw [hm0 hk, decide_eq_false hn1]; rfl
      have k4 : (kd == 4) = false := by simp; omega
      have k5 : (kd == 5) = false := by simp; omega
      have k1 : kd ≤ 1 := by omega
      have k0 : 0 ≤ kd := by omega
      have n1 : ((n : Int) != 1) = true := by simp; omega
      have n64 : ¬ 64 < (n : Int) := by omega
      clear hm0 hm1 hm2 hm4 hm5 hk hn1 hn64
      go_enter Try.func42, Try.ntmps42
      go_wp2_with fail
      go_ret
      exact ⟨rfl, HB0.out⟩
    · obtain rfl : mb = false := by
        by_cases hk1 : kd = 0 ∨ kd = 1
        · rw [hm0 hk1, decide_eq_false (by omega)]; rfl
        · rw [hm2 (by omega), decide_eq_false (by omega)]; rfl
      have k4 : (kd == 4) = false := by simp; omega
      have k5 : (kd == 5) = false := by simp; omega
      have k1 : kd ≤ 3 := by omega
      have k0 : 0 ≤ kd := by omega
      have n64 : 64 < (n : Int) := by omega
      clear hm0 hm1 hm2 hm4 hm5 hk hn64
      go_enter Try.func42, Try.ntmps42
      go_wp2_with fail
      go_ret
      exact ⟨rfl, HB0.out⟩
    · obtain rfl : mb = withinB xs := by rw [hm0 hk, decide_eq_true hn1]; rfl
      have k4 : (kd == 4) = false := by simp; omega
      have k5 : (kd == 5) = false := by simp; omega
      have k1 : kd ≤ 1 := by omega
      have k0 : 0 ≤ kd := by omega
      subst hn1
      clear hk
      clear hm0 hm1 hm2 hm4 hm5 HP
      go_enter Try.func42, Try.ntmps42
      go_wp2_with fail
      go_loopw [3] (fun i wr => ∃ k : Nat, k ≤ 1 ∧ i = .int .i64 k ∧ (∃ q, wr = (w.alloc (.cells #[.int .i64 kd, .slice a 1 c, .bool true, .int .i64 t] 24)).drewN q) ∧ Hid (∀ j, j < k → f j = cutI (f j))) (fun i _ => 1 - (intOf i).toNat)
      case atStart => exact ⟨0, Nat.zero_le _, rfl, ⟨0, rfl⟩, fun j h => by omega⟩
      case round =>
        obtain ⟨k, hk, rfl, ⟨q, rfl⟩, HE⟩ := hrel
        by_cases hlt : k < 1
        · obtain ⟨b1, o, rfl, hb, hc⟩ := HV.out (by omega)
          have hc0 := hc k hlt
          obtain ⟨x, hx⟩ : ∃ x, f k = x := ⟨_, rfl⟩
          rw [hx] at hc0
          have HX := Lib.hid hx
          have HC := fun W => Lib.hid (r_cutq x W)
          clear hx hc
          by_cases he : x = cutI x
          · have HEx := Lib.hid he
            have HC0 := r_cutq x
            rw [← he] at HC0
            have HC := fun W => Lib.hid (HC0 W)
            clear HC0
            have hxx : (x != x) = false := by simp
            clear he
            go_wp2_with fail
            go_quiet (first | (go_at_call 64; with_reducible exact quiet_at (HC _).out))
            go_wp2_with fail
            go_roundw
            case rel => exact ⟨k + 1, by omega, by go_num, ⟨_, rfl⟩, fun j hj => by
              rcases Nat.lt_or_ge j k with h | h
              · exact HE.out j h
              · obtain rfl : j = k := by omega
                rw [HX.out]; exact HEx.out⟩
            case measure => simp [intOf]; omega
          · have hwf : withinB xs = false := within_false (k := k) (by rw [← HN.out]; exact hlt) (by rw [← HF.out, HX.out]; exact he)
            have HW := Lib.hid hwf
            have hxx : (x != cutI x) = true := by simpa using he
            generalize cutI x = y at *
            clear he hwf
            go_wp2_with fail
            go_quiet (first | (go_at_call 64; with_reducible exact quiet_at (HC _).out))
            go_wp2_with fail
            go_ret
            exact ⟨by rw [HW.out]; simp, by rw [World.drewN_drewN]; exact HB.out _⟩
        · obtain rfl : k = 1 := by omega
          have hwt : withinB xs = true := within_true fun j hj => by rw [← HF.out]; exact HE.out j (by rw [HN.out]; exact hj)
          have HW := Lib.hid hwt
          clear hwt
          go_wp2_with fail
          go_ret
          exact ⟨by rw [HW.out]; rfl, HB.out _⟩
    · obtain rfl : mb = withinB xs := by rw [hm2 hk, decide_eq_true (by omega)]; rfl
      have k4 : (kd == 4) = false := by simp; omega
      have k5 : (kd == 5) = false := by simp; omega
      have k1 : ¬ kd ≤ 1 := by omega
      have k3 : kd ≤ 3 := by omega
      have d1 := decide_eq_false k1
      have n64 : ¬ 64 < (n : Int) := by omega
      have n1 : ((n : Int) != 1) = true ∨ n = 1 := by
        by_cases h : n = 1
        · exact .inr h
        · left; simp; omega
      clear hk hn64
      rcases n1 with n1 | rfl
      · clear hm0 hm1 hm2 hm4 hm5 HP
        go_enter Try.func42, Try.ntmps42
        go_wp2_with fail
        go_loopw [3] (fun i wr => ∃ k : Nat, k ≤ n ∧ i = .int .i64 k ∧ (∃ q, wr = (w.alloc (.cells #[.int .i64 kd, .slice a n c, .bool true, .int .i64 t] 24)).drewN q) ∧ Hid (∀ j, j < k → f j = cutI (f j))) (fun i _ => n - (intOf i).toNat)
        case atStart => exact ⟨0, Nat.zero_le _, rfl, ⟨0, rfl⟩, fun j h => by omega⟩
        case round =>
          obtain ⟨k, hk, rfl, ⟨q, rfl⟩, HE⟩ := hrel
          by_cases hlt : k < n
          · obtain ⟨b1, o, rfl, hb, hc⟩ := HV.out (by omega)
            have hc0 := hc k hlt
            obtain ⟨x, hx⟩ : ∃ x, f k = x := ⟨_, rfl⟩
            rw [hx] at hc0
            have HX := Lib.hid hx
            have HC := fun W => Lib.hid (r_cutq x W)
            clear hx hc
            by_cases he : x = cutI x
            · have HEx := Lib.hid he
              have HC0 := r_cutq x
              rw [← he] at HC0
              have HC := fun W => Lib.hid (HC0 W)
              clear HC0
              have hxx : (x != x) = false := by simp
              clear he
              go_wp2_with fail
              go_quiet (first | (go_at_call 64; with_reducible exact quiet_at (HC _).out))
              go_wp2_with fail
              go_roundw
              case rel => exact ⟨k + 1, by omega, by go_num, ⟨_, rfl⟩, fun j hj => by
                rcases Nat.lt_or_ge j k with h | h
                · exact HE.out j h
                · obtain rfl : j = k := by omega
                  rw [HX.out]; exact HEx.out⟩
              case measure => simp [intOf]; omega
            · have hwf : withinB xs = false := within_false (k := k) (by rw [← HN.out]; exact hlt) (by rw [← HF.out, HX.out]; exact he)
              have HW := Lib.hid hwf
              have hxx : (x != cutI x) = true := by simpa using he
              generalize cutI x = y at *
              clear he hwf
              go_wp2_with fail
              go_quiet (first | (go_at_call 64; with_reducible exact quiet_at (HC _).out))
              go_wp2_with fail
              go_ret
              exact ⟨by rw [HW.out]; simp, by rw [World.drewN_drewN]; exact HB.out _⟩
          · obtain rfl : k = n := by omega
            have hwt : withinB xs = true := within_true fun j hj => by rw [← HF.out]; exact HE.out j (by rw [HN.out]; exact hj)
            have HW := Lib.hid hwt
            clear hwt
            go_wp2_with fail
            go_ret
            exact ⟨by rw [HW.out]; rfl, HB.out _⟩
      · clear hm0 hm1 hm2 hm4 hm5 HP
        go_enter Try.func42, Try.ntmps42
        go_wp2_with fail
        go_loopw [3] (fun i wr => ∃ k : Nat, k ≤ 1 ∧ i = .int .i64 k ∧ (∃ q, wr = (w.alloc (.cells #[.int .i64 kd, .slice a 1 c, .bool true, .int .i64 t] 24)).drewN q) ∧ Hid (∀ j, j < k → f j = cutI (f j))) (fun i _ => 1 - (intOf i).toNat)
        case atStart => exact ⟨0, Nat.zero_le _, rfl, ⟨0, rfl⟩, fun j h => by omega⟩
        case round =>
          obtain ⟨k, hk, rfl, ⟨q, rfl⟩, HE⟩ := hrel
          by_cases hlt : k < 1
          · obtain ⟨b1, o, rfl, hb, hc⟩ := HV.out (by omega)
            have hc0 := hc k hlt
            obtain ⟨x, hx⟩ : ∃ x, f k = x := ⟨_, rfl⟩
            rw [hx] at hc0
            have HX := Lib.hid hx
            have HC := fun W => Lib.hid (r_cutq x W)
            clear hx hc
            by_cases he : x = cutI x
            · have HEx := Lib.hid he
              have HC0 := r_cutq x
              rw [← he] at HC0
              have HC := fun W => Lib.hid (HC0 W)
              clear HC0
              have hxx : (x != x) = false := by simp
              clear he
              go_wp2_with fail
              go_quiet (first | (go_at_call 64; with_reducible exact quiet_at (HC _).out))
              go_wp2_with fail
              go_roundw
              case rel => exact ⟨k + 1, by omega, by go_num, ⟨_, rfl⟩, fun j hj => by
                rcases Nat.lt_or_ge j k with h | h
                · exact HE.out j h
                · obtain rfl : j = k := by omega
                  rw [HX.out]; exact HEx.out⟩
              case measure => simp [intOf]; omega
            · have hwf : withinB xs = false := within_false (k := k) (by rw [← HN.out]; exact hlt) (by rw [← HF.out, HX.out]; exact he)
              have HW := Lib.hid hwf
              have hxx : (x != cutI x) = true := by simpa using he
              generalize cutI x = y at *
              clear he hwf
              go_wp2_with fail
              go_quiet (first | (go_at_call 64; with_reducible exact quiet_at (HC _).out))
              go_wp2_with fail
              go_ret
              exact ⟨by rw [HW.out]; simp, by rw [World.drewN_drewN]; exact HB.out _⟩
          · obtain rfl : k = 1 := by omega
            have hwt : withinB xs = true := within_true fun j hj => by rw [← HF.out]; exact HE.out j (by rw [HN.out]; exact hj)
            have HW := Lib.hid hwt
            clear hwt
            go_wp2_with fail
            go_ret
            exact ⟨by rw [HW.out]; rfl, HB.out _⟩
  · rcases hk with hk | hk | rfl | rfl | ⟨hk, hn1, hn64⟩ | ⟨hk, hn64⟩ | ⟨hk, hn1⟩ | ⟨hk, hn64⟩
    · obtain rfl := hm1 (.inl hk)
      clear hm0 hm1 hm2 hm4 hm5
      go_enter Try.func42, Try.ntmps42
      go_wp2_with fail
      go_ret
      exact ⟨rfl, HB0.out⟩
    · obtain rfl := hm1 (.inr hk)
      clear hm0 hm1 hm2 hm4 hm5
      go_enter Try.func42, Try.ntmps42
      go_wp2_with fail
      go_ret
      exact ⟨rfl, HB0.out⟩
    · have HP4 := HP _ (-1099511627776) HB0.out
      obtain rfl := hm4 rfl
      clear hm0 hm1 hm2 hm4 hm5 HP
      generalize pairsB xs (-1099511627776) = pb at *
      go_enter Try.func42, Try.ntmps42
      go_wp2_with fail
      refine HP4.out.mono ?_
      rintro e w1 ⟨rfl, hb1⟩
      have HB1 := Lib.hid (HB0.out.trans (hb1.mono (HB0.out.size)))
      clear hb1
      go_wp2_with fail
      go_ret
      exact ⟨rfl, HB1.out⟩
    · have HP4 := HP _ (0) HB0.out
      obtain rfl := hm5 rfl
      clear hm0 hm1 hm2 hm4 hm5 HP
      generalize pairsB xs (0) = pb at *
      go_enter Try.func42, Try.ntmps42
      go_wp2_with fail
      refine HP4.out.mono ?_
      rintro e w1 ⟨rfl, hb1⟩
      have HB1 := Lib.hid (HB0.out.trans (hb1.mono (HB0.out.size)))
      clear hb1
      go_wp2_with fail
      go_ret
      exact ⟨rfl, HB1.out⟩
    · obtain rfl : mb = false := by rw [hm0 hk, decide_eq_false hn1]; rfl
      have k4 : (kd == 4) = false := by simp; omega
      have k5 : (kd == 5) = false := by simp; omega
      have k1 : kd ≤ 1 := by omega
      have k0 : 0 ≤ kd := by omega
      have n1 : ((n : Int) != 1) = true := by simp; omega
      have n64 : ¬ 64 < (n : Int) := by omega
      clear hm0 hm1 hm2 hm4 hm5 hk hn1 hn64
      go_enter Try.func42, Try.ntmps42
      go_wp2_with fail
      go_ret
      exact ⟨rfl, HB0.out⟩
    · obtain rfl : mb = false := by
        by_cases hk1 : kd = 0 ∨ kd = 1
        · rw [hm0 hk1, decide_eq_false (by omega)]; rfl
        · rw [hm2 (by omega), decide_eq_false (by omega)]; rfl
      have k4 : (kd == 4) = false := by simp; omega
      have k5 : (kd == 5) = false := by simp; omega
      have k1 : kd ≤ 3 := by omega
      have k0 : 0 ≤ kd := by omega
      have n64 : 64 < (n : Int) := by omega
      clear hm0 hm1 hm2 hm4 hm5 hk hn64
      go_enter Try.func42, Try.ntmps42
      go_wp2_with fail
      go_ret
      exact ⟨rfl, HB0.out⟩
    · obtain rfl : mb = withinB xs := by rw [hm0 hk, decide_eq_true hn1]; rfl
      have k4 : (kd == 4) = false := by simp; omega
      have k5 : (kd == 5) = false := by simp; omega
      have k1 : kd ≤ 1 := by omega
      have k0 : 0 ≤ kd := by omega
      subst hn1
      clear hk
      clear hm0 hm1 hm2 hm4 hm5 HP
      go_enter Try.func42, Try.ntmps42
      go_wp2_with fail
      go_loopw [3] (fun i wr => ∃ k : Nat, k ≤ 1 ∧ i = .int .i64 k ∧ (∃ q, wr = (w.alloc (.cells #[.int .i64 kd, .slice a 1 c, .bool false, .int .i64 0] 24)).drewN q) ∧ Hid (∀ j, j < k → f j = cutI (f j))) (fun i _ => 1 - (intOf i).toNat)
      case atStart => exact ⟨0, Nat.zero_le _, rfl, ⟨0, rfl⟩, fun j h => by omega⟩
      case round =>
        obtain ⟨k, hk, rfl, ⟨q, rfl⟩, HE⟩ := hrel
        by_cases hlt : k < 1
        · obtain ⟨b1, o, rfl, hb, hc⟩ := HV.out (by omega)
          have hc0 := hc k hlt
          obtain ⟨x, hx⟩ : ∃ x, f k = x := ⟨_, rfl⟩
          rw [hx] at hc0
          have HX := Lib.hid hx
          have HC := fun W => Lib.hid (r_cutq x W)
          clear hx hc
          by_cases he : x = cutI x
          · have HEx := Lib.hid he
            have HC0 := r_cutq x
            rw [← he] at HC0
            have HC := fun W => Lib.hid (HC0 W)
            clear HC0
            have hxx : (x != x) = false := by simp
            clear he
            go_wp2_with fail
            go_quiet (first | (go_at_call 64; with_reducible exact quiet_at (HC _).out))
            go_wp2_with fail
            go_roundw
            case rel => exact ⟨k + 1, by omega, by go_num, ⟨_, rfl⟩, fun j hj => by
              rcases Nat.lt_or_ge j k with h | h
              · exact HE.out j h
              · obtain rfl : j = k := by omega
                rw [HX.out]; exact HEx.out⟩
            case measure => simp [intOf]; omega
          · have hwf : withinB xs = false := within_false (k := k) (by rw [← HN.out]; exact hlt) (by rw [← HF.out, HX.out]; exact he)
            have HW := Lib.hid hwf
            have hxx : (x != cutI x) = true := by simpa using he
            generalize cutI x = y at *
            clear he hwf
            go_wp2_with fail
            go_quiet (first | (go_at_call 64; with_reducible exact quiet_at (HC _).out))
            go_wp2_with fail
            go_ret
            exact ⟨by rw [HW.out]; simp, by rw [World.drewN_drewN]; exact HB.out _⟩
        · obtain rfl : k = 1 := by omega
          have hwt : withinB xs = true := within_true fun j hj => by rw [← HF.out]; exact HE.out j (by rw [HN.out]; exact hj)
          have HW := Lib.hid hwt
          clear hwt
          go_wp2_with fail
          go_ret
          exact ⟨by rw [HW.out]; rfl, HB.out _⟩
    · obtain rfl : mb = withinB xs := by rw [hm2 hk, decide_eq_true (by omega)]; rfl
      have k4 : (kd == 4) = false := by simp; omega
      have k5 : (kd == 5) = false := by simp; omega
      have k1 : ¬ kd ≤ 1 := by omega
      have k3 : kd ≤ 3 := by omega
      have d1 := decide_eq_false k1
      have n64 : ¬ 64 < (n : Int) := by omega
      have n1 : ((n : Int) != 1) = true ∨ n = 1 := by
        by_cases h : n = 1
        · exact .inr h
        · left; simp; omega
      clear hk hn64
      rcases n1 with n1 | rfl
      · clear hm0 hm1 hm2 hm4 hm5 HP
        go_enter Try.func42, Try.ntmps42
        go_wp2_with fail
        go_loopw [3] (fun i wr => ∃ k : Nat, k ≤ n ∧ i = .int .i64 k ∧ (∃ q, wr = (w.alloc (.cells #[.int .i64 kd, .slice a n c, .bool false, .int .i64 0] 24)).drewN q) ∧ Hid (∀ j, j < k → f j = cutI (f j))) (fun i _ => n - (intOf i).toNat)
        case atStart => exact ⟨0, Nat.zero_le _, rfl, ⟨0, rfl⟩, fun j h => by omega⟩
        case round =>
          obtain ⟨k, hk, rfl, ⟨q, rfl⟩, HE⟩ := hrel
          by_cases hlt : k < n
          · obtain ⟨b1, o, rfl, hb, hc⟩ := HV.out (by omega)
            have hc0 := hc k hlt
            obtain ⟨x, hx⟩ : ∃ x, f k = x := ⟨_, rfl⟩
            rw [hx] at hc0
            have HX := Lib.hid hx
            have HC := fun W => Lib.hid (r_cutq x W)
            clear hx hc
            by_cases he : x = cutI x
            · have HEx := Lib.hid he
              have HC0 := r_cutq x
              rw [← he] at HC0
              have HC := fun W => Lib.hid (HC0 W)
              clear HC0
              have hxx : (x != x) = false := by simp
              clear he
              go_wp2_with fail
              go_quiet (first | (go_at_call 64; with_reducible exact quiet_at (HC _).out))
              go_wp2_with fail
              go_roundw
              case rel => exact ⟨k + 1, by omega, by go_num, ⟨_, rfl⟩, fun j hj => by
                rcases Nat.lt_or_ge j k with h | h
                · exact HE.out j h
                · obtain rfl : j = k := by omega
                  rw [HX.out]; exact HEx.out⟩
              case measure => simp [intOf]; omega
            · have hwf : withinB xs = false := within_false (k := k) (by rw [← HN.out]; exact hlt) (by rw [← HF.out, HX.out]; exact he)
              have HW := Lib.hid hwf
              have hxx : (x != cutI x) = true := by simpa using he
              generalize cutI x = y at *
              clear he hwf
              go_wp2_with fail
              go_quiet (first | (go_at_call 64; with_reducible exact quiet_at (HC _).out))
              go_wp2_with fail
              go_ret
              exact ⟨by rw [HW.out]; simp, by rw [World.drewN_drewN]; exact HB.out _⟩
          · obtain rfl : k = n := by omega
            have hwt : withinB xs = true := within_true fun j hj => by rw [← HF.out]; exact HE.out j (by rw [HN.out]; exact hj)
            have HW := Lib.hid hwt
            clear hwt
            go_wp2_with fail
            go_ret
            exact ⟨by rw [HW.out]; rfl, HB.out _⟩
      · clear hm0 hm1 hm2 hm4 hm5 HP
        go_enter Try.func42, Try.ntmps42
        go_wp2_with fail
        go_loopw [3] (fun i wr => ∃ k : Nat, k ≤ 1 ∧ i = .int .i64 k ∧ (∃ q, wr = (w.alloc (.cells #[.int .i64 kd, .slice a 1 c, .bool false, .int .i64 0] 24)).drewN q) ∧ Hid (∀ j, j < k → f j = cutI (f j))) (fun i _ => 1 - (intOf i).toNat)
        case atStart => exact ⟨0, Nat.zero_le _, rfl, ⟨0, rfl⟩, fun j h => by omega⟩
        case round =>
          obtain ⟨k, hk, rfl, ⟨q, rfl⟩, HE⟩ := hrel
          by_cases hlt : k < 1
          · obtain ⟨b1, o, rfl, hb, hc⟩ := HV.out (by omega)
            have hc0 := hc k hlt
            obtain ⟨x, hx⟩ : ∃ x, f k = x := ⟨_, rfl⟩
            rw [hx] at hc0
            have HX := Lib.hid hx
            have HC := fun W => Lib.hid (r_cutq x W)
            clear hx hc
            by_cases he : x = cutI x
            · have HEx := Lib.hid he
              have HC0 := r_cutq x
              rw [← he] at HC0
              have HC := fun W => Lib.hid (HC0 W)
              clear HC0
              have hxx : (x != x) = false := by simp
              clear he
              go_wp2_with fail
              go_quiet (first | (go_at_call 64; with_reducible exact quiet_at (HC _).out))
              go_wp2_with fail
              go_roundw
              case rel => exact ⟨k + 1, by omega, by go_num, ⟨_, rfl⟩, fun j hj => by
                rcases Nat.lt_or_ge j k with h | h
                · exact HE.out j h
                · obtain rfl : j = k := by omega
                  rw [HX.out]; exact HEx.out⟩
              case measure => simp [intOf]; omega
            · have hwf : withinB xs = false := within_false (k := k) (by rw [← HN.out]; exact hlt) (by rw [← HF.out, HX.out]; exact he)
              have HW := Lib.hid hwf
              have hxx : (x != cutI x) = true := by simpa using he
              generalize cutI x = y at *
              clear he hwf
              go_wp2_with fail
              go_quiet (first | (go_at_call 64; with_reducible exact quiet_at (HC _).out))
              go_wp2_with fail
              go_ret
              exact ⟨by rw [HW.out]; simp, by rw [World.drewN_drewN]; exact HB.out _⟩
          · obtain rfl : k = 1 := by omega
            have hwt : withinB xs = true := within_true fun j hj => by rw [← HF.out]; exact HE.out j (by rw [HN.out]; exact hj)
            have HW := Lib.hid hwt
            clear hwt
            go_wp2_with fail
            go_ret
            exact ⟨by rw [HW.out]; rfl, HB.out _⟩
end Go.Proofs.Ytjfenjnnpikkdaa
/- A row of ints that a call appends to. -/
namespace Go.Proofs.Ytjfenjnnpikkdaa
set_option maxRecDepth 100000
open Go.RowKit

/-- vo is a row of the call's own that reads as l. -/
def OutRel (w : World) (l : List Int) (vo : Value) (wr : World) : Prop := Below w.heap.size w wr ∧ Fresh w.heap.size vo ∧ Own wr 3 1 vo l.length (ints l)
theorem OutRel.nil (w : World) : OutRel w [] (.slice none 0 0) w := ⟨Below.refl _ _, fresh_none, rfl, .inl ⟨rfl, rfl⟩⟩
theorem OutRel.own {w wr : World} {l : List Int} {vo : Value} (h : OutRel w l vo wr) (o : Obj) : Own (wr.alloc o) 3 1 vo l.length (ints l) := own_keeps h.2.2 ((Keeps.refl (fun _ => False) wr).alloc o) (by simp)
theorem OutRel.step {w wr w1 : World} {l : List Int} {vo v' : Value} {x : Int} {o : Obj} (h : OutRel w l vo wr) (h1 : Own w1 3 1 v' (l.length + 1) (ints l ++ [.int .i64 x])) (h2 : (wr.alloc o).grownBy w1 vo.ownBlock) (h3 : v'.ownBlock = vo.ownBlock ∨ v'.ownBlock = some (wr.alloc o).heap.size) : OutRel w (l ++ [x]) v' w1 := by
  have hb : Below w.heap.size w w1 := (h.1.alloc h.1.size o).grown h2 (by rw [World.size_alloc]; have := h.1.size; omega) (fun k hk => h.2.1 k hk)
  refine ⟨hb, fun k hk => ?_, ?_⟩
  · rcases h3 with e | e
    · exact h.2.1 k (e ▸ hk)
    · rw [e] at hk
      simp only [Option.some.injEq] at hk
      have := h.1.size
      rw [World.size_alloc] at hk
      omega
  · rw [List.length_append, List.length_singleton, show ints (l ++ [x]) = ints l ++ [.int .i64 x] by simp [ints]]
    exact h1
theorem new_one (w : World) (x : Value) (T : TypeId) : ∀ (j : Nat) (u : Value), [x][j]? = some u → (w.alloc (.cells #[x] T)).cell? ((⟨w.heap.size, 0, none⟩ : Addr).add j) = some u := by
  intro j u hj
  rcases j with _ | j
  · simp at hj
    subst hj
    have := (Blk.new w #[x] T).cell 0
    simp [Addr.add]
  · simp at hj
theorem grown_refl (w : World) : w.grownBy w none := ⟨rfl, rfl, rfl, Nat.le_refl _, fun _ _ _ => rfl⟩
/-- append([]int(nil), s...): a row of the program's own that reads as s. -/
theorem wpList_copy_nil {w : World} {ops : Array Oper} {rest : List Oper} {o : Oper} {a : Act} {Q : Exit → Act → World → Prop} (hgd : o.guard = none) (s x : Operand)
    (ho : o.op = .call { callee := .builtin .append, args := #[s, x], argTypes := #[22, 22] }) (hs : a.eval s = .slice none 0 0) (v : Value) (L : List Int) (hx : a.eval x = v) (hrd : Rd w v L) (hl : L.length ≤ 1099511627776)
    (h : ∀ v' w', Own w' 3 1 v' L.length (ints L) → w.grownBy w' none → (∀ k, v'.ownBlock = some k → k = w.heap.size) → wpList Try.prog ops Q rest (a.put o.dst v') w') : wpList Try.prog ops Q (o :: rest) a w := by
  obtain ⟨i0, hi, hz0, hz1, hz2⟩ := info_parts infoInt
  obtain ⟨ao, c, rfl, hnews⟩ := hrd.news
  cases ao with
  | none =>
    obtain rfl : L = [] := by
      obtain ⟨a', c', e, _, _, h3⟩ := hrd
      simp only [Value.slice.injEq] at e
      rcases L with _ | ⟨y, L⟩
      · rfl
      · obtain ⟨b, o', e', _⟩ := h3 (by simp)
        rw [← e.1] at e'
        cases e'
    refine wpList_append2 w hgd s x 22 22 ho _ _ hs hx (r := .slice none 0 0) (w' := w) (fun ty => ?_) (h _ _ (own_nil _) (grown_refl _) (fun k hk => by simp [Value.ownBlock] at hk))
    simp [Builtin.append_, run_underlying Try.underlying22, sizeOf, typeInfo, hi, hz1, Builtin.lenOf, Builtin.firstCells]
  | some ad =>
    refine wpList_append_own_at w hgd s x 22 ho 0 3 i0 (.int .i64 0) 1 8 Try.underlying22 hi hz0 hz1 hz2 rfl (by decide) (.slice none 0 0) 0 [] hs (own_nil _) ad L.length c (ints L) hx (by simp [ints]) (hnews ad rfl) (ints_one _) (by simp only [maxLen]; omega) (by omega) (Nat.zero_le _) ?_
    intro v' w' h1 h2 h3 h4
    rw [Nat.zero_add, List.nil_append] at h1
    refine h v' w' h1 h2 (fun k hk => ?_)
    rcases h4 with e | e
    · rw [e] at hk; simp [Value.ownBlock] at hk
    · rw [e] at hk; simpa using hk.symm
end Go.Proofs.Ytjfenjnnpikkdaa
/- Layer 4, the document's answer: find. -/
namespace Go.Proofs.Ytjfenjnnpikkdaa
set_option maxRecDepth 100000
open Go.RowKit

set_option maxRecDepth 100000 in
set_option maxHeartbeats 3200000 in
theorem r_find {w : World} {v : Value} {xs : List Int} {least last : Int} (hx : Rd w v xs) (hp : pairsGo least last xs = true) (he : xs.length % 2 = 0) (hl : xs.length ≤ 128) (key : Int) :
    Calls Try.prog 65 #[v, .int .i64 key] w (fun e w' => e = .returned (.int .i64 (findZ xs key)) ∧ w' = w) := by
  obtain ⟨n, a, c, f, rfl, hn, hnc, hcm, hf, hv⟩ := hx.view
  clear hx
  have HP := Lib.hid hp
  have HV := Lib.hid hv
  have HN := Lib.hid hn
  have HF := Lib.hid hf
  have hn2 : n % 2 = 0 := by omega
  have hn3 : n ≤ 128 := by omega
  have HE := Lib.hid he
  clear hp hv hn hf he hl
  go_enter Try.func65, Try.ntmps65
  go_wp2_with fail
  go_loopw [5] (fun i wr => ∃ e : Nat, e ≤ n ∧ e % 2 = 0 ∧ i = .int .i64 e ∧ wr = w ∧ Hid (∀ d, d % 2 = 0 → d < e → xs.getD d 0 ≠ key)) (fun i _ => n - (intOf i).toNat)
  case atStart => exact ⟨0, Nat.zero_le _, rfl, rfl, rfl, fun d _ h => by omega⟩
  case round =>
    obtain ⟨e, hen, he2, rfl, rfl, HD⟩ := hrel
    by_cases hlt : e < n
    · obtain ⟨b, o, rfl, hb, hc⟩ := HV.out (by omega)
      have hc0 := hc e hlt
      have hfe := HF.out e
      clear hc
      generalize f e = x at *
      have HX := Lib.hid hfe
      by_cases hxk : x = key
      · have hz : findZ xs key = e := findZ_at e HP.out HE.out he2 (by rw [← HN.out]; exact hlt) (by rw [← hfe]; exact hxk)
        have HZ := Lib.hid hz
        have hb1 : (x == key) = true := by simpa using hxk
        clear hz hfe hxk
        go_wp2_with fail
        go_ret
        exact ⟨by rw [HZ.out]; rfl, rfl⟩
      · have hd : ∀ d, d % 2 = 0 → d < e + 2 → xs.getD d 0 ≠ key := fun d h1 h2 => by
          rcases Nat.lt_or_ge d e with h | h
          · exact HD.out d h1 h
          · obtain rfl : d = e := by omega
            rw [← hfe]; exact hxk
        have HD2 := Lib.hid hd
        have hb1 : (x == key) = false := by simpa using hxk
        clear hd hfe hxk
        go_wp2_with fail
        go_roundw
        case rel => exact ⟨e + 2, by omega, by omega, by go_num, (by first | trivial | rfl), HD2.out⟩
        case measure => simp [intOf]; omega
    · obtain rfl : e = n := by omega
      have hz : findZ xs key = -1 := findZ_none fun d h1 h2 => HD.out d h1 (by rw [HN.out]; exact h2)
      have HZ := Lib.hid hz
      clear hz
      go_wp2_with fail
      go_ret
      exact ⟨by rw [HZ.out]; rfl, rfl⟩
end Go.Proofs.Ytjfenjnnpikkdaa
/- Layer 4, the document's answer: without. -/
namespace Go.Proofs.Ytjfenjnnpikkdaa
set_option maxRecDepth 100000
open Go.RowKit

theorem take_two {l : List Int} {e : Nat} (h : e + 1 < l.length) : l.take (e + 2) = l.take e ++ [l.getD e 0, l.getD (e + 1) 0] := by
  rw [show e + 2 = (e + 1) + 1 by omega, take_succ_getD _ _ h, take_succ_getD _ _ (by omega)]
  simp
theorem remR_length (key : Int) : ∀ l : List Int, (remR l key).length ≤ l.length
  | k :: v :: r => by
    have ih := remR_length key r
    rw [remR]
    split <;> simp only [List.length_cons] <;> omega
  | [k] => by simp [remR]
  | [] => by simp [remR]

set_option maxRecDepth 100000 in
set_option maxHeartbeats 3200000 in
theorem r_without {w : World} {v : Value} {xs : List Int} (hx : Rd w v xs) (he : xs.length % 2 = 0) (hl : xs.length ≤ 128) (key : Int) :
    Calls Try.prog 66 #[v, .int .i64 key] w (fun e w' => ∃ v', e = .returned v' ∧ OutRel w (remR xs key) v' w') := by
  obtain ⟨i0, hi, hz0, hz1, hz2⟩ := info_parts infoInt
  obtain ⟨n, a, c, f, rfl, hn, hnc, hcm, hf, hv⟩ := hx.view
  clear hx
  have HV := Lib.hid hv
  have HN := Lib.hid hn
  have HF := Lib.hid hf
  have hn2 : n % 2 = 0 := by omega
  have hn3 : n ≤ 128 := by omega
  have HO0 := Lib.hid (OutRel.nil w)
  clear hv hn hf he hl
  go_enter Try.func66, Try.ntmps66
  go_wp2_with fail
  go_loopw [5, 6] (fun o i wr => ∃ e : Nat, e ≤ n ∧ e % 2 = 0 ∧ i = .int .i64 e ∧ OutRel w (remR (xs.take e) key) o wr) (fun _ i _ => n - (intOf i).toNat)
  case atStart => exact ⟨0, Nat.zero_le _, rfl, rfl, by simpa [remR] using HO0.out⟩
  case round =>
    obtain ⟨e, hen, he2, rfl, hrel⟩ := hrel
    by_cases hlt : e < n
    · obtain ⟨b, o, rfl, hb, hc⟩ := HV.out (by omega)
      have hc0 := hc e hlt
      have hc1 := hc (e + 1) (by omega)
      have W1 := Lib.hid hc1
      rw [← hrel.1.cell (p := ⟨b, o + e, none⟩) hb] at hc0
      rw [← hrel.1.cell (p := ⟨b, o + (e + 1), none⟩) hb] at hc1
      have hbw : b < wr.heap.size := Nat.lt_of_lt_of_le hb hrel.1.size
      have hlt1 : e + 1 < n := by omega
      have hs : remR (xs.take (e + 2)) key = remR (xs.take e) key ++ (if f e = key then [] else [f e, f (e + 1)]) := by
        rw [take_two (by rw [← HN.out]; exact hlt1), remR_snoc _ (by rw [List.length_take, ← HN.out]; omega), HF.out, HF.out]
      have hln : (remR (xs.take e) key).length ≤ 128 := Nat.le_trans (remR_length _ _) (by rw [List.length_take, ← HN.out]; omega)
      generalize remR (xs.take e) key = out at *
      generalize f e = x at *
      generalize f (e + 1) = y at *
      by_cases hxk : x = key
      · rw [if_pos hxk, List.append_nil] at hs
        have hb1 : (x != key) = false := by simpa using hxk
        have HS := Lib.hid hs
        have HR := Lib.hid hrel
        clear hs hrel hxk hc
        go_wp2_with fail
        go_roundw
        case rel => exact ⟨e + 2, by omega, by omega, by go_num, by rw [HS.out]; exact HR.out⟩
        case measure => simp [intOf]; omega
      · rw [if_neg hxk] at hs
        have hb1 : (x != key) = true := by simpa using hxk
        have HS := Lib.hid hs
        have HR := Lib.hid hrel
        clear hs hrel hxk hc
        have hln1 : (out ++ [x]).length ≤ 129 := by simp; omega
        have HLN1 := Lib.hid hln1
        clear hln1
        go_wp2_with (first
          | (at_builtin; refine wpList_append_own_at _ rfl _ _ 22 rfl 0 3 i0 (.int .i64 0) 1 8 Try.underlying22 hi hz0 hz1 hz2 rfl (by decide) _ _ _ rfl (HR.out.own _) ⟨wr.heap.size, 0, none⟩ 1 1 [.int .i64 x] rfl (by simp) (new_one _ _ _) (by simp [Value.oneCell']) (by simp only [maxLen]; omega) (by omega) (Nat.zero_le _) ?_; intro v1 w1 hown hgrow hnil hat; clear hnil; have hr1 := HR.out.step hown hgrow hat; have hd1 := (hr1.1.cell (p := ⟨b, o + (e + 1), none⟩) hb).trans W1.out; have hbw1 : b < w1.heap.size := Nat.lt_of_lt_of_le hb hr1.1.size; have HR1 := Lib.hid hr1; clear hown hgrow hat hr1)
          | (at_builtin; refine wpList_append_own_at _ rfl _ _ 22 rfl 0 3 i0 (.int .i64 0) 1 8 Try.underlying22 hi hz0 hz1 hz2 rfl (by decide) _ _ _ rfl (HR1.out.own _) ⟨w1.heap.size, 0, none⟩ 1 1 [.int .i64 y] rfl (by simp) (new_one _ _ _) (by simp [Value.oneCell']) (by simp only [maxLen]; have := HLN1.out; omega) (by have := HLN1.out; omega) (Nat.zero_le _) ?_; intro v2 w2 hown hgrow hnil hat; clear hnil; have HR2 := Lib.hid (HR1.out.step hown hgrow hat); clear hown hgrow hat))
        go_roundw
        case rel => exact ⟨e + 2, by omega, by omega, by go_num, by rw [HS.out, show out ++ [x, y] = out ++ [x] ++ [y] by simp]; exact HR2.out⟩
        case measure => simp [intOf]; omega
    · obtain rfl : e = n := by omega
      have ht : xs.take e = xs := by rw [HN.out, List.take_length]
      rw [ht] at hrel
      have HR := Lib.hid hrel
      clear hrel ht
      go_wp2_with fail
      go_ret
      exact ⟨_, rfl, HR.out⟩
end Go.Proofs.Ytjfenjnnpikkdaa
/- Layer 4, the document's answer: with. -/
namespace Go.Proofs.Ytjfenjnnpikkdaa
set_option maxRecDepth 100000
open Go.RowKit

theorem keys_gt {least : Int} : ∀ {l : List Int} {last : Int} (e : Nat), pairsGo least last l = true → l.length % 2 = 0 → e % 2 = 0 → e < l.length → last < l.getD e 0
  | k :: v :: r, last, e, h, he, h2, h3 => by
    rw [pairsGo_cons] at h
    rcases e with _ | _ | e
    · simp; omega
    · omega
    · have ih := keys_gt (last := k) e h.2 (by simp at he; omega) (by omega) (by simp at h3; omega)
      simp only [List.getD_cons_succ]
      omega
  | [k], _, _, _, he, _, _ => by simp at he
  | [], _, _, _, _, _, h3 => by simp at h3
theorem done_gt {least key : Int} : ∀ {l : List Int} {last : Int} (e : Nat), pairsGo least last l = true → l.length % 2 = 0 → e % 2 = 0 → e < l.length → allLt (l.take e) key = false → key < l.getD e 0
  | k :: v :: r, last, e, h, he, h2, h3, h4 => by
    rw [pairsGo_cons] at h
    rcases e with _ | _ | e
    · simp [allLt] at h4
    · omega
    · simp only [List.take_succ_cons, allLt] at h4
      simp only [List.getD_cons_succ]
      by_cases c : k < key
      · rw [decide_eq_true c, Bool.true_and] at h4
        exact done_gt (last := k) e h.2 (by simp at he; omega) (by omega) (by simp at h3; omega) h4
      · have := keys_gt (last := k) e h.2 (by simp at he; omega) (by omega) (by simp at h3; omega)
        omega
  | [k], _, _, _, he, _, _, _ => by simp at he
  | [], _, _, _, _, _, h3, _ => by simp at h3
/-- What 'with' has told of pairs that it has read. -/
def withP (p : List Int) (key n : Int) : List Int := if allLt p key then p else putR p key n
theorem withP_le (p : List Int) (key n : Int) (he : p.length % 2 = 0) : (withP p key n).length ≤ p.length + 2 := by
  unfold withP
  split
  · omega
  · rw [putR_length key n p he]; split <;> omega

set_option maxRecDepth 100000 in
set_option maxHeartbeats 6400000 in
theorem r_with {w : World} {v : Value} {xs : List Int} {least last : Int} (hx : Rd w v xs) (hp : pairsGo least last xs = true) (he : xs.length % 2 = 0) (hl : xs.length ≤ 128) (key m : Int) :
    Calls Try.prog 67 #[v, .int .i64 key, .int .i64 m] w (fun e w' => ∃ v', e = .returned v' ∧ OutRel w (putR xs key m) v' w') := by
  obtain ⟨i0, hi, hz0, hz1, hz2⟩ := info_parts infoInt
  obtain ⟨n, a, c, f, rfl, hn, hnc, hcm, hf, hv⟩ := hx.view
  clear hx
  have HP := Lib.hid hp
  have HEV := Lib.hid he
  have HV := Lib.hid hv
  have HN := Lib.hid hn
  have HF := Lib.hid hf
  have hn2 : n % 2 = 0 := by omega
  have hn3 : n ≤ 128 := by omega
  have HO0 := Lib.hid (OutRel.nil w)
  clear hv hn hf he hl hp
  go_enter Try.func67, Try.ntmps67
  go_wp2_with fail
  go_loopw [7, 8, 9] (fun o d i wr => ∃ e : Nat, e ≤ n ∧ e % 2 = 0 ∧ i = .int .i64 e ∧ d = .bool (!allLt (xs.take e) key) ∧ OutRel w (withP (xs.take e) key m) o wr) (fun _ _ i _ => n - (intOf i).toNat)
  case atStart => exact ⟨0, Nat.zero_le _, rfl, rfl, by simp [allLt], by simpa [withP, allLt] using HO0.out⟩
  case round =>
    obtain ⟨e, hen, he2, rfl, rfl, hrel⟩ := hrel
    by_cases hlt : e < n
    · obtain ⟨b, o, rfl, hb, hc⟩ := HV.out (by omega)
      have hc0 := hc e hlt
      have hc1 := hc (e + 1) (by omega)
      have W0 := Lib.hid hc0
      have W1 := Lib.hid hc1
      rw [← hrel.1.cell (p := ⟨b, o + e, none⟩) hb] at hc0
      rw [← hrel.1.cell (p := ⟨b, o + (e + 1), none⟩) hb] at hc1
      have hbw : b < wr.heap.size := Nat.lt_of_lt_of_le hb hrel.1.size
      have hlt1 : e + 1 < n := by omega
      have hep : (xs.take e).length % 2 = 0 := by rw [List.length_take, ← HN.out]; omega
      have ht2 : xs.take (e + 2) = xs.take e ++ [f e, f (e + 1)] := by rw [take_two (by rw [← HN.out]; exact hlt1), HF.out, HF.out]
      have hgt : allLt (xs.take e) key = false → key < f e := fun h => by rw [HF.out]; exact done_gt e HP.out HEV.out he2 (by rw [← HN.out]; exact hlt) h
      have hle : (xs.take e).length ≤ 128 := by rw [List.length_take, ← HN.out]; omega
      have hln := withP_le (xs.take e) key m hep
      generalize xs.take e = p at *
      generalize f e = x at *
      generalize f (e + 1) = y at *
      have hall := allLt_snoc (k := x) (v := y) (key := key) p hep
      rw [← ht2] at hall
      cases hd : allLt p key
      · have hx1 := hgt hd
        have hw : withP p key m = putR p key m := by unfold withP; rw [hd]; rfl
        rw [hd, Bool.false_and] at hall
        have hw2 : withP (xs.take (e + 2)) key m = putR p key m ++ [x, y] := by
          unfold withP; rw [hall, ht2, putR_done p hep hd]; rfl
        rw [hw] at hrel hln
        generalize putR p key m = out at *
        have HR := Lib.hid hrel
        have HALL := Lib.hid hall
        have HW2 := Lib.hid hw2
        have hb1 : (x != key) = true := by simp; omega
        have hlo : out.length ≤ 130 := by omega
        clear hgt ht2 hall hw hw2 hrel hc hd hln hle hep
        go_wp2_with (first
          | (at_builtin; refine wpList_append_own_at _ rfl _ _ 22 rfl 0 3 i0 (.int .i64 0) 1 8 Try.underlying22 hi hz0 hz1 hz2 rfl (by decide) _ _ _ rfl (HR.out.own _) ⟨wr.heap.size, 0, none⟩ 1 1 [.int .i64 x] rfl (by simp) (new_one _ _ _) (by simp [Value.oneCell']) (by (try simp only [maxLen, List.length_append, List.length_cons, List.length_nil]); omega) (by (try simp only [List.length_append, List.length_cons, List.length_nil]); omega) (Nat.zero_le _) ?_; intro v1 w1 hown hgrow hnil hat; clear hnil; have hr1 := HR.out.step hown hgrow hat; have ha1 := (hr1.1.cell (p := ⟨b, o + e, none⟩) hb).trans W0.out; have hd1 := (hr1.1.cell (p := ⟨b, o + (e + 1), none⟩) hb).trans W1.out; have hbw1 : b < w1.heap.size := Nat.lt_of_lt_of_le hb hr1.1.size; have HR1 := Lib.hid hr1; clear hown hgrow hat hr1)
          | (at_builtin; refine wpList_append_own_at _ rfl _ _ 22 rfl 0 3 i0 (.int .i64 0) 1 8 Try.underlying22 hi hz0 hz1 hz2 rfl (by decide) _ _ _ rfl (HR1.out.own _) ⟨w1.heap.size, 0, none⟩ 1 1 [.int .i64 y] rfl (by simp) (new_one _ _ _) (by simp [Value.oneCell']) (by (try simp only [maxLen, List.length_append, List.length_cons, List.length_nil]); omega) (by (try simp only [List.length_append, List.length_cons, List.length_nil]); omega) (Nat.zero_le _) ?_; intro v2 w2 hown hgrow hnil hat; clear hnil; have hr2 := HR1.out.step hown hgrow hat; have ha2 := (hr2.1.cell (p := ⟨b, o + e, none⟩) hb).trans W0.out; have hd2 := (hr2.1.cell (p := ⟨b, o + (e + 1), none⟩) hb).trans W1.out; have hbw2 : b < w2.heap.size := Nat.lt_of_lt_of_le hb hr2.1.size; have HR2 := Lib.hid hr2; clear hown hgrow hat hr2))
        go_roundw
        case rel => exact ⟨e + 2, by omega, by omega, by go_num, by rw [HALL.out]; rfl, by rw [HW2.out, show out ++ [x, y] = out ++ [x] ++ [y] by simp]; exact HR2.out⟩
        case measure => simp [intOf]; omega
      · rw [hd, Bool.true_and] at hall
        have hw : withP p key m = p := by unfold withP; rw [hd]; rfl
        rw [hw] at hrel
        have HR := Lib.hid hrel
        rcases (by omega : x < key ∨ x = key ∨ key < x) with h1 | rfl | h1
        · have hall2 : allLt (xs.take (e + 2)) key = true := by rw [hall, decide_eq_true h1]
          have hw2 : withP (xs.take (e + 2)) key m = p ++ [x, y] := by unfold withP; rw [hall2, ht2]; rfl
          have HALL := Lib.hid hall2
          have HW2 := Lib.hid hw2
          have hb1 : (x != key) = true := by simp; omega
          clear hgt ht2 hall hall2 hw hw2 hrel hc hd hln hep
          go_wp2_with (first
          | (at_builtin; refine wpList_append_own_at _ rfl _ _ 22 rfl 0 3 i0 (.int .i64 0) 1 8 Try.underlying22 hi hz0 hz1 hz2 rfl (by decide) _ _ _ rfl (HR.out.own _) ⟨wr.heap.size, 0, none⟩ 1 1 [.int .i64 x] rfl (by simp) (new_one _ _ _) (by simp [Value.oneCell']) (by (try simp only [maxLen, List.length_append, List.length_cons, List.length_nil]); omega) (by (try simp only [List.length_append, List.length_cons, List.length_nil]); omega) (Nat.zero_le _) ?_; intro v1 w1 hown hgrow hnil hat; clear hnil; have hr1 := HR.out.step hown hgrow hat; have ha1 := (hr1.1.cell (p := ⟨b, o + e, none⟩) hb).trans W0.out; have hd1 := (hr1.1.cell (p := ⟨b, o + (e + 1), none⟩) hb).trans W1.out; have hbw1 : b < w1.heap.size := Nat.lt_of_lt_of_le hb hr1.1.size; have HR1 := Lib.hid hr1; clear hown hgrow hat hr1)
          | (at_builtin; refine wpList_append_own_at _ rfl _ _ 22 rfl 0 3 i0 (.int .i64 0) 1 8 Try.underlying22 hi hz0 hz1 hz2 rfl (by decide) _ _ _ rfl (HR1.out.own _) ⟨w1.heap.size, 0, none⟩ 1 1 [.int .i64 y] rfl (by simp) (new_one _ _ _) (by simp [Value.oneCell']) (by (try simp only [maxLen, List.length_append, List.length_cons, List.length_nil]); omega) (by (try simp only [List.length_append, List.length_cons, List.length_nil]); omega) (Nat.zero_le _) ?_; intro v2 w2 hown hgrow hnil hat; clear hnil; have hr2 := HR1.out.step hown hgrow hat; have ha2 := (hr2.1.cell (p := ⟨b, o + e, none⟩) hb).trans W0.out; have hd2 := (hr2.1.cell (p := ⟨b, o + (e + 1), none⟩) hb).trans W1.out; have hbw2 : b < w2.heap.size := Nat.lt_of_lt_of_le hb hr2.1.size; have HR2 := Lib.hid hr2; clear hown hgrow hat hr2))
          go_roundw
          case rel => exact ⟨e + 2, by omega, by omega, by go_num, by rw [HALL.out]; rfl, by rw [HW2.out, show p ++ [x, y] = p ++ [x] ++ [y] by simp]; exact HR2.out⟩
          case measure => simp [intOf]; omega
        · have hall2 : allLt (xs.take (e + 2)) x = false := by rw [hall, decide_eq_false (by omega)]
          have hw2 : withP (xs.take (e + 2)) x m = p ++ [x, m] := by
            unfold withP; rw [hall2, ht2, putR_lt p hep hd]; simp [putR]
          have HALL := Lib.hid hall2
          have HW2 := Lib.hid hw2
          have hb1 : (x != x) = false := by simp
          clear hgt ht2 hall hall2 hw hw2 hrel hc hd hln hep
          go_wp2_with (first
          | (at_builtin; refine wpList_append_own_at _ rfl _ _ 22 rfl 0 3 i0 (.int .i64 0) 1 8 Try.underlying22 hi hz0 hz1 hz2 rfl (by decide) _ _ _ rfl (HR.out.own _) ⟨wr.heap.size, 0, none⟩ 1 1 [.int .i64 x] rfl (by simp) (new_one _ _ _) (by simp [Value.oneCell']) (by (try simp only [maxLen, List.length_append, List.length_cons, List.length_nil]); omega) (by (try simp only [List.length_append, List.length_cons, List.length_nil]); omega) (Nat.zero_le _) ?_; intro v1 w1 hown hgrow hnil hat; clear hnil; have hr1 := HR.out.step hown hgrow hat; have ha1 := (hr1.1.cell (p := ⟨b, o + e, none⟩) hb).trans W0.out; have hd1 := (hr1.1.cell (p := ⟨b, o + (e + 1), none⟩) hb).trans W1.out; have hbw1 : b < w1.heap.size := Nat.lt_of_lt_of_le hb hr1.1.size; have HR1 := Lib.hid hr1; clear hown hgrow hat hr1)
          | (at_builtin; refine wpList_append_own_at _ rfl _ _ 22 rfl 0 3 i0 (.int .i64 0) 1 8 Try.underlying22 hi hz0 hz1 hz2 rfl (by decide) _ _ _ rfl (HR1.out.own _) ⟨w1.heap.size, 0, none⟩ 1 1 [.int .i64 m] rfl (by simp) (new_one _ _ _) (by simp [Value.oneCell']) (by (try simp only [maxLen, List.length_append, List.length_cons, List.length_nil]); omega) (by (try simp only [List.length_append, List.length_cons, List.length_nil]); omega) (Nat.zero_le _) ?_; intro v2 w2 hown hgrow hnil hat; clear hnil; have hr2 := HR1.out.step hown hgrow hat; have ha2 := (hr2.1.cell (p := ⟨b, o + e, none⟩) hb).trans W0.out; have hd2 := (hr2.1.cell (p := ⟨b, o + (e + 1), none⟩) hb).trans W1.out; have hbw2 : b < w2.heap.size := Nat.lt_of_lt_of_le hb hr2.1.size; have HR2 := Lib.hid hr2; clear hown hgrow hat hr2))
          go_roundw
          case rel => exact ⟨e + 2, by omega, by omega, by go_num, by rw [HALL.out]; rfl, by rw [HW2.out, show p ++ [x, m] = p ++ [x] ++ [m] by simp]; exact HR2.out⟩
          case measure => simp [intOf]; omega
        · have hall2 : allLt (xs.take (e + 2)) key = false := by rw [hall, decide_eq_false (by omega)]
          have hw2 : withP (xs.take (e + 2)) key m = p ++ [key, m, x, y] := by
            unfold withP; rw [hall2, ht2, putR_lt p hep hd]; simp [putR, show ¬ x < key by omega, show ¬ x = key by omega]
          have HALL := Lib.hid hall2
          have HW2 := Lib.hid hw2
          have hb1 : (x != key) = true := by simp; omega
          clear hgt ht2 hall hall2 hw hw2 hrel hc hd hln hep
          go_wp2_with (first
          | (at_builtin; refine wpList_append_own_at _ rfl _ _ 22 rfl 0 3 i0 (.int .i64 0) 1 8 Try.underlying22 hi hz0 hz1 hz2 rfl (by decide) _ _ _ rfl (HR.out.own _) ⟨wr.heap.size, 0, none⟩ 1 1 [.int .i64 key] rfl (by simp) (new_one _ _ _) (by simp [Value.oneCell']) (by (try simp only [maxLen, List.length_append, List.length_cons, List.length_nil]); omega) (by (try simp only [List.length_append, List.length_cons, List.length_nil]); omega) (Nat.zero_le _) ?_; intro v1 w1 hown hgrow hnil hat; clear hnil; have hr1 := HR.out.step hown hgrow hat; have ha1 := (hr1.1.cell (p := ⟨b, o + e, none⟩) hb).trans W0.out; have hd1 := (hr1.1.cell (p := ⟨b, o + (e + 1), none⟩) hb).trans W1.out; have hbw1 : b < w1.heap.size := Nat.lt_of_lt_of_le hb hr1.1.size; have HR1 := Lib.hid hr1; clear hown hgrow hat hr1)
          | (at_builtin; refine wpList_append_own_at _ rfl _ _ 22 rfl 0 3 i0 (.int .i64 0) 1 8 Try.underlying22 hi hz0 hz1 hz2 rfl (by decide) _ _ _ rfl (HR1.out.own _) ⟨w1.heap.size, 0, none⟩ 1 1 [.int .i64 m] rfl (by simp) (new_one _ _ _) (by simp [Value.oneCell']) (by (try simp only [maxLen, List.length_append, List.length_cons, List.length_nil]); omega) (by (try simp only [List.length_append, List.length_cons, List.length_nil]); omega) (Nat.zero_le _) ?_; intro v2 w2 hown hgrow hnil hat; clear hnil; have hr2 := HR1.out.step hown hgrow hat; have ha2 := (hr2.1.cell (p := ⟨b, o + e, none⟩) hb).trans W0.out; have hd2 := (hr2.1.cell (p := ⟨b, o + (e + 1), none⟩) hb).trans W1.out; have hbw2 : b < w2.heap.size := Nat.lt_of_lt_of_le hb hr2.1.size; have HR2 := Lib.hid hr2; clear hown hgrow hat hr2)
          | (at_builtin; refine wpList_append_own_at _ rfl _ _ 22 rfl 0 3 i0 (.int .i64 0) 1 8 Try.underlying22 hi hz0 hz1 hz2 rfl (by decide) _ _ _ rfl (HR2.out.own _) ⟨w2.heap.size, 0, none⟩ 1 1 [.int .i64 x] rfl (by simp) (new_one _ _ _) (by simp [Value.oneCell']) (by (try simp only [maxLen, List.length_append, List.length_cons, List.length_nil]); omega) (by (try simp only [List.length_append, List.length_cons, List.length_nil]); omega) (Nat.zero_le _) ?_; intro v3 w3 hown hgrow hnil hat; clear hnil; have hr3 := HR2.out.step hown hgrow hat; have ha3 := (hr3.1.cell (p := ⟨b, o + e, none⟩) hb).trans W0.out; have hd3 := (hr3.1.cell (p := ⟨b, o + (e + 1), none⟩) hb).trans W1.out; have hbw3 : b < w3.heap.size := Nat.lt_of_lt_of_le hb hr3.1.size; have HR3 := Lib.hid hr3; clear hown hgrow hat hr3)
          | (at_builtin; refine wpList_append_own_at _ rfl _ _ 22 rfl 0 3 i0 (.int .i64 0) 1 8 Try.underlying22 hi hz0 hz1 hz2 rfl (by decide) _ _ _ rfl (HR3.out.own _) ⟨w3.heap.size, 0, none⟩ 1 1 [.int .i64 y] rfl (by simp) (new_one _ _ _) (by simp [Value.oneCell']) (by (try simp only [maxLen, List.length_append, List.length_cons, List.length_nil]); omega) (by (try simp only [List.length_append, List.length_cons, List.length_nil]); omega) (Nat.zero_le _) ?_; intro v4 w4 hown hgrow hnil hat; clear hnil; have hr4 := HR3.out.step hown hgrow hat; have ha4 := (hr4.1.cell (p := ⟨b, o + e, none⟩) hb).trans W0.out; have hd4 := (hr4.1.cell (p := ⟨b, o + (e + 1), none⟩) hb).trans W1.out; have hbw4 : b < w4.heap.size := Nat.lt_of_lt_of_le hb hr4.1.size; have HR4 := Lib.hid hr4; clear hown hgrow hat hr4))
          go_roundw
          case rel => exact ⟨e + 2, by omega, by omega, by go_num, by rw [HALL.out]; rfl, by rw [HW2.out, show p ++ [key, m, x, y] = p ++ [key] ++ [m] ++ [x] ++ [y] by simp]; exact HR4.out⟩
          case measure => simp [intOf]; omega
    · obtain rfl : e = n := by omega
      have ht : xs.take e = xs := by rw [HN.out, List.take_length]
      rw [ht] at hrel ⊢
      have hle : xs.length ≤ 128 := by rw [← HN.out]; omega
      cases hd : allLt xs key
      · have hw : withP xs key m = putR xs key m := by unfold withP; rw [hd]; rfl
        rw [hw] at hrel
        have HR := Lib.hid hrel
        clear hrel ht hw hd
        go_wp2_with fail
        go_ret
        exact ⟨_, rfl, HR.out⟩
      · have hw : withP xs key m = xs := by unfold withP; rw [hd]; rfl
        have hq : putR xs key m = xs ++ [key, m] := by
          have := putR_lt (key := key) (n := m) (q := []) xs HEV.out hd
          simpa [putR] using this
        rw [hw] at hrel
        have HR := Lib.hid hrel
        have HQ := Lib.hid hq
        clear hrel ht hw hd hq
        go_wp2_with (first
          | (at_builtin; refine wpList_append_own_at _ rfl _ _ 22 rfl 0 3 i0 (.int .i64 0) 1 8 Try.underlying22 hi hz0 hz1 hz2 rfl (by decide) _ _ _ rfl (HR.out.own _) ⟨wr.heap.size, 0, none⟩ 1 1 [.int .i64 key] rfl (by simp) (new_one _ _ _) (by simp [Value.oneCell']) (by (try simp only [maxLen, List.length_append, List.length_cons, List.length_nil]); omega) (by (try simp only [List.length_append, List.length_cons, List.length_nil]); omega) (Nat.zero_le _) ?_; intro v1 w1 hown hgrow hnil hat; clear hnil; have hr1 := HR.out.step hown hgrow hat; have HR1 := Lib.hid hr1; clear hown hgrow hat hr1)
          | (at_builtin; refine wpList_append_own_at _ rfl _ _ 22 rfl 0 3 i0 (.int .i64 0) 1 8 Try.underlying22 hi hz0 hz1 hz2 rfl (by decide) _ _ _ rfl (HR1.out.own _) ⟨w1.heap.size, 0, none⟩ 1 1 [.int .i64 m] rfl (by simp) (new_one _ _ _) (by simp [Value.oneCell']) (by (try simp only [maxLen, List.length_append, List.length_cons, List.length_nil]); omega) (by (try simp only [List.length_append, List.length_cons, List.length_nil]); omega) (Nat.zero_le _) ?_; intro v2 w2 hown hgrow hnil hat; clear hnil; have hr2 := HR1.out.step hown hgrow hat; have HR2 := Lib.hid hr2; clear hown hgrow hat hr2))
        go_ret
        exact ⟨_, rfl, by rw [HQ.out, show xs ++ [key, m] = xs ++ [key] ++ [m] by simp]; exact HR2.out⟩
end Go.Proofs.Ytjfenjnnpikkdaa
/- Layer 4, the document's answer: one. -/
namespace Go.Proofs.Ytjfenjnnpikkdaa
set_option maxRecDepth 100000
open Go.RowKit

set_option maxRecDepth 100000 in
set_option maxHeartbeats 3200000 in
theorem r_one {w : World} {vl : Value} (s : St) (o : Op3) (hx : Rd w vl s.L) (hk : s.kind = 0 ∨ s.kind = 1) (hm : mayB s = true) :
    Calls Try.prog 43 #[.agg #[.int .i64 s.kind, vl, .bool s.isSealed, .int .i64 s.to], .agg #[.int .i64 o.code, .int .i64 o.a, .int .i64 o.b]] w (StepP w vl (numberS s o)) := by
  obtain ⟨x, hL, x1, x2⟩ := may_one hk hm
  obtain ⟨k, L, b, t⟩ := s
  obtain ⟨co, oa, ob⟩ := o
  simp only at hx hk hL hm ⊢
  subst hL
  obtain ⟨n, a, c, f, rfl, hn, hnc, hcm, hf, hv⟩ := hx.view
  simp at hn
  subst hn
  obtain ⟨bb, oo, rfl, hb, hc⟩ := hv (by omega)
  have hc0 := hc 0 (by omega)
  rw [hf, Nat.add_zero] at hc0
  simp only [List.getD_cons_zero] at hc0
  have hb1 : bb < w.heap.size + 1 := by omega
  have hb2 : bb < w.heap.size + 1 + 1 := by omega
  have HX := Lib.hid hx
  have HCa := fun W => Lib.hid (r_cut oa W)
  have HCs := fun W => Lib.hid (r_cut (x + cutI oa) W)
  have r1 := cutI_range oa
  obtain ⟨r1, r2⟩ := r1
  clear hf hc hv hx hm f
  rcases hk with rfl | rfl
  · by_cases c1 : co = 1
    · subst c1
      have hr : numberS ⟨0, [x], b, t⟩ ⟨1, oa, ob⟩ = (⟨0, [cutI (x + cutI oa)], b, t⟩, x) := by simp [numberS]
      rw [hr]
      clear hr HX
      generalize cutI oa = y at *
      generalize cutI (x + y) = z at *
      go_enter Try.func43, Try.ntmps43
      go_wp2_with fail
      refine (HCa _).out.mono ?_
      rintro e w1 ⟨rfl, rfl⟩
      go_wp2_with fail
      refine (HCs _).out.mono ?_
      rintro e w1 ⟨rfl, rfl⟩
      go_wp2_with fail
      refine bodyPost_ret (v := .tuple #[.agg #[.int .i64 0, .slice (some ⟨w.heap.size + 1 + 1 + 1, 0, none⟩) 1 1, .bool b, .int .i64 t], .int .i64 x]) ?_ rfl ?_
      · simp [results, Try.results43, go_sem]
      · exact stepp_one (below3 w _ _ _) _ (by simp) _ _ _ _ _
    · have c1' : (co == 1) = false := by simpa using c1
      by_cases c7 : co = 7
      · subst c7
        have hr : numberS ⟨0, [x], b, t⟩ ⟨7, oa, ob⟩ = (⟨0, [x], b, t⟩, x) := by simp [numberS]
        rw [hr]
        clear hr HCa HCs c1 c1'
        go_enter Try.func43, Try.ntmps43
        go_wp2_with fail
        refine bodyPost_ret (v := .tuple #[.agg #[.int .i64 0, .slice (some ⟨bb, oo, none⟩) 1 c, .bool b, .int .i64 t], .int .i64 x]) ?_ rfl ?_
        · simp [results, Try.results43, go_sem]
        · exact stepp_same HX.out (below3 w _ _ _)
      · have c7' : (co == 7) = false := by simpa using c7
        have hr : numberS ⟨0, [x], b, t⟩ ⟨co, oa, ob⟩ = (⟨0, [x], b, t⟩, 0) := by simp [numberS, c7, c1]
        rw [hr]
        clear hr HCa HCs c7 c1
        go_enter Try.func43, Try.ntmps43
        go_wp2_with fail
        refine bodyPost_ret (v := .tuple #[.agg #[.int .i64 0, .slice (some ⟨bb, oo, none⟩) 1 c, .bool b, .int .i64 t], .int .i64 0]) ?_ rfl ?_
        · simp [results, Try.results43, go_sem]
        · exact stepp_same HX.out (below3 w _ _ _)
  · by_cases c1 : co = 2
    · subst c1
      have hr : numberS ⟨1, [x], b, t⟩ ⟨2, oa, ob⟩ = (⟨1, [cutI oa], b, t⟩, x) := by simp [numberS]
      rw [hr]
      clear hr HX HCs
      generalize cutI oa = y at *
      go_enter Try.func43, Try.ntmps43
      go_wp2_with fail
      refine (HCa _).out.mono ?_
      rintro e w1 ⟨rfl, rfl⟩
      go_wp2_with fail
      refine bodyPost_ret (v := .tuple #[.agg #[.int .i64 1, .slice (some ⟨w.heap.size + 1 + 1 + 1, 0, none⟩) 1 1, .bool b, .int .i64 t], .int .i64 x]) ?_ rfl ?_
      · simp [results, Try.results43, go_sem]
      · exact stepp_one (below3 w _ _ _) _ (by simp) _ _ _ _ _
    · have c1' : (co == 2) = false := by simpa using c1
      by_cases c7 : co = 7
      · subst c7
        have hr : numberS ⟨1, [x], b, t⟩ ⟨7, oa, ob⟩ = (⟨1, [x], b, t⟩, x) := by simp [numberS]
        rw [hr]
        clear hr HCa HCs c1 c1'
        go_enter Try.func43, Try.ntmps43
        go_wp2_with fail
        refine bodyPost_ret (v := .tuple #[.agg #[.int .i64 1, .slice (some ⟨bb, oo, none⟩) 1 c, .bool b, .int .i64 t], .int .i64 x]) ?_ rfl ?_
        · simp [results, Try.results43, go_sem]
        · exact stepp_same HX.out (below3 w _ _ _)
      · have c7' : (co == 7) = false := by simpa using c7
        have hr : numberS ⟨1, [x], b, t⟩ ⟨co, oa, ob⟩ = (⟨1, [x], b, t⟩, 0) := by simp [numberS, c7, c1]
        rw [hr]
        clear hr HCa HCs c7 c1
        go_enter Try.func43, Try.ntmps43
        go_wp2_with fail
        refine bodyPost_ret (v := .tuple #[.agg #[.int .i64 1, .slice (some ⟨bb, oo, none⟩) 1 c, .bool b, .int .i64 t], .int .i64 0]) ?_ rfl ?_
        · simp [results, Try.results43, go_sem]
        · exact stepp_same HX.out (below3 w _ _ _)
end Go.Proofs.Ytjfenjnnpikkdaa
/- Layer 4, the document's answer: what a step tells. -/
namespace Go.Proofs.Ytjfenjnnpikkdaa
set_option maxRecDepth 100000
open Go.RowKit

/-- What a step tells: as StepP, but a new list need not begin its block. -/
def StepQ (w : World) (v0 : Value) (r : St × Int) (e : Ending) (w' : World) : Prop :=
  ∃ vl, e = .returned (.tuple #[.agg #[.int .i64 r.1.kind, vl, .bool r.1.isSealed, .int .i64 r.1.to], .int .i64 r.2]) ∧ Rd w' vl r.1.L ∧ Below w.heap.size w w' ∧ (vl = v0 ∨ ∀ k, vl.ownBlock = some k → w.heap.size ≤ k ∧ k < w'.heap.size)
theorem StepP.weak {w w' : World} {v0 : Value} {r : St × Int} {e : Ending} (h : StepP w v0 r e w') : StepQ w v0 r e w' := by
  obtain ⟨vl, h1, h2, h3, h4⟩ := h
  refine ⟨vl, h1, h2, h3, h4.imp id fun h k hk => ⟨h.2 k hk, own_lt h.1 hk⟩⟩
/-- A state whose list lies in a row of the call's own. -/
theorem stepq_own {w w4 W : World} {B C : Nat} {v0 : Value} {g o m cap n0 c0 : Nat} {L L0 : List Int} {cb cc : Array Value} (hB : Blk w4 B cb 24) (hC : Blk w4 C cc 24) (hk : Keeps (fun k => k = B ∨ k = C) w4 W) (hb : Below w.heap.size w w4) (h1 : w.heap.size ≤ B) (h2 : w.heap.size ≤ C)
    (ho : Own w4 3 1 (.slice (some ⟨g, 0, none⟩) n0 c0) n0 (ints L0)) (hfr : w.heap.size ≤ g) (hr : Rd w4 (.slice (some ⟨g, o, none⟩) m cap) L) (k t n : Int) (b : Bool) : StepQ w v0 (⟨k, L, b, t⟩, n) (.returned (.tuple #[.agg #[.int .i64 k, .slice (some ⟨g, o, none⟩) m cap, .bool b, .int .i64 t], .int .i64 n])) W := by
  have hgB : g ≠ B := fun e => own_blk_ne ho hB (by decide) (by rw [e]; rfl)
  have hgC : g ≠ C := fun e => own_blk_ne ho hC (by decide) (by rw [e]; rfl)
  have hgl : g < w4.heap.size := own_lt ho rfl
  refine ⟨_, rfl, ?_, hb.trans (hk.below (by rintro k (rfl | rfl) <;> assumption) hb.size), .inr fun q hq => ?_⟩
  · obtain ⟨a, c, e, r1, r2, r3⟩ := hr
    refine ⟨a, c, e, r1, r2, fun hl => ?_⟩
    obtain ⟨b', o', e1, e2, e3⟩ := r3 hl
    simp only [Value.slice.injEq] at e
    rw [e1] at e
    simp only [Option.some.injEq, Addr.mk.injEq] at e
    obtain ⟨⟨rfl, rfl, _⟩, _, _⟩ := e
    refine ⟨_, _, e1, Nat.lt_of_lt_of_le e2 hk.size, fun i hi => ?_⟩
    rw [hk.cell (p := ⟨g, o + i, none⟩) (by rintro (e | e); exact hgB e; exact hgC e) e2]
    exact e3 i hi
  · simp only [Value.ownBlock, Option.some.injEq] at hq
    have := hk.size
    omega
/-- A part of a row of the program's own. -/
theorem own_rd_drop {w : World} {g n c : Nat} {L : List Int} (h : Own w 3 1 (.slice (some ⟨g, 0, none⟩) n c) n (ints L)) (hn : 1 ≤ n) : Rd w (.slice (some ⟨g, 1, none⟩) (n - 1) (c - 1)) (L.drop 1) := by
  obtain ⟨a, c', e, r1, r2, r3⟩ := own_rd h
  simp only [Value.slice.injEq] at e
  obtain ⟨rfl, hl, rfl⟩ := e
  obtain ⟨b, o, e1, e2, e3⟩ := r3 (by omega)
  simp only [Option.some.injEq, Addr.mk.injEq] at e1
  obtain ⟨rfl, rfl, _⟩ := e1
  refine ⟨_, c - 1, by rw [List.length_drop, ← hl], by rw [List.length_drop]; omega, by omega, fun hl' => ⟨_, _, rfl, e2, fun i hi => ?_⟩⟩
  rw [List.length_drop] at hi
  have := e3 (1 + i) (by omega)
  rw [Nat.zero_add] at this
  rw [this, getD_drop']
where
  getD_drop' {l : List Int} {i : Nat} : some (Value.int .i64 (l.getD (1 + i) 0)) = some (.int .i64 ((l.drop 1).getD i 0)) := by
    simp [List.getD_eq_getElem?_getD, List.getElem?_drop, Nat.add_comm]
theorem own_rd_take {w : World} {g n c : Nat} {L : List Int} (h : Own w 3 1 (.slice (some ⟨g, 0, none⟩) n c) n (ints L)) (m : Nat) (hm : m ≤ n) : Rd w (.slice (some ⟨g, 0, none⟩) m c) (L.take m) := by
  obtain ⟨a, c', e, r1, r2, r3⟩ := own_rd h
  simp only [Value.slice.injEq] at e
  obtain ⟨rfl, hl, rfl⟩ := e
  have hlm : (L.take m).length = m := by rw [List.length_take]; omega
  refine ⟨_, c, by rw [hlm], by omega, by omega, fun hl' => ?_⟩
  obtain ⟨b, o, e1, e2, e3⟩ := r3 (by omega)
  refine ⟨b, o, e1, e2, fun i hi => ?_⟩
  rw [e3 i (by omega)]
  rw [hlm] at hi
  simp [List.getD_eq_getElem?_getD, List.getElem?_take, hi]

theorem rd_empty (w : World) (a : Option Addr) (c : Nat) (hc : c ≤ 9223372036854775807) : Rd w (.slice a 0 c) [] := ⟨a, c, rfl, Nat.zero_le _, hc, fun h => by simp at h⟩
theorem res_keeps (w : World) (C : Nat) (v1 v2 v3 v4 : Value) : Keeps (fun k => k = C) w ((((w.setCell ⟨C, 0, none⟩ v1).setCell ⟨C, 1, none⟩ v2).setCell ⟨C, 2, none⟩ v3).setCell ⟨C, 3, none⟩ v4) :=
  (((((Keeps.refl (fun k => k = C) w).set C 0 (.inl rfl) _).set C 1 (.inl rfl) _).set C 2 (.inl rfl) _).set C 3 (.inl rfl) _)
theorem res_cell {w : World} {C : Nat} {p : Addr} {u : Value} (hp : ¬ p.block = C) (h : w.cell? p = some u) (v1 v2 v3 v4 : Value) : (((((w.setCell ⟨C, 0, none⟩ v1).setCell ⟨C, 1, none⟩ v2).setCell ⟨C, 2, none⟩ v3).setCell ⟨C, 3, none⟩ v4).drew).cell? p = some u :=
  (res_keeps w C v1 v2 v3 v4).drew.cellSome hp h
theorem sets_keepsd (w4 : World) (B C : Nat) (v1 v2 v3 v4 v5 : Value) : Keeps (fun k => k = B ∨ k = C) w4 (((((w4.setCell ⟨B, 1, none⟩ v1).setCell ⟨C, 0, none⟩ v2).setCell ⟨C, 1, none⟩ v3).setCell ⟨C, 2, none⟩ v4).setCell ⟨C, 3, none⟩ v5).drew :=
  (sets_keeps w4 B C v1 v2 v3 v4 v5).drew
end Go.Proofs.Ytjfenjnnpikkdaa
/- Layer 4, the document's answer: list, the push. -/
namespace Go.Proofs.Ytjfenjnnpikkdaa
set_option maxRecDepth 100000
open Go.RowKit

set_option maxRecDepth 100000 in
set_option maxHeartbeats 6400000 in
theorem r_list_push {w : World} {a : Option Addr} {c n : Nat} {L : List Int} {k : Int} {b : Bool} {t oa ob : Int} (hx : Rd w (.slice a n c) L) (hn : n = L.length) (hn64 : n ≤ 64) (h64 : ¬ n = 64) :
    Calls Try.prog 44 #[.agg #[.int .i64 k, .slice a n c, .bool b, .int .i64 t], .agg #[.int .i64 3, .int .i64 oa, .int .i64 ob]] w (StepQ w (.slice a n c) (lineS ⟨k, L, b, t⟩ ⟨3, oa, ob⟩)) := by
  have HX := Lib.hid hx
  have HN := Lib.hid hn
  have HCa := fun W => Lib.hid (r_cut oa W)
  clear hx hn
  have hr : lineS ⟨k, L, b, t⟩ ⟨3, oa, ob⟩ = (⟨k, L ++ [cutI oa], b, t⟩, (n : Int) + 1) := by
    simp [lineS, ← HN.out]; omega
  rw [hr]
  have h64' : ((n : Int) == 64) = false := by simp; omega
  have HX3 := Lib.hid (HX.out.below (below3 w (.cells #[.int .i64 k, .slice a n c, .bool b, .int .i64 t] 24) (.cells #[.int .i64 3, .int .i64 oa, .int .i64 ob] 37) (.cells #[.int .i64 0, .slice none 0 0, .bool false, .int .i64 0] 24)) (Nat.le_refl _))
  clear hr h64
  generalize cutI oa = y at *
  obtain ⟨i0, hi, hz0, hz1, hz2⟩ := info_parts infoInt
  go_enter Try.func44, Try.ntmps44
  go_wp2_with (at_builtin; refine wpList_copy_nil rfl _ _ rfl rfl _ L rfl HX3.out (by rw [← HN.out]; omega) ?_; intro v1 w1 hown hgrow hat; have hBX := (Below.refl (w.heap.size + 1 + 1 + 1) (((w.alloc (.cells #[.int .i64 k, .slice a n c, .bool b, .int .i64 t] 24)).alloc (.cells #[.int .i64 3, .int .i64 oa, .int .i64 ob] 37)).alloc (.cells #[.int .i64 0, .slice none 0 0, .bool false, .int .i64 0] 24))).grown hgrow (by simp) (by simp); have HBX := Lib.hid hBX; have hB := hBX; obtain ⟨b0, b1, b2, hz4, hb4⟩ := box_facts hB; have hk0 : w1.cell? ⟨w.heap.size, 0, none⟩ = some (.int .i64 k) := (by rw [b0.cell]; rfl); have hk1 : w1.cell? ⟨w.heap.size, 1, none⟩ = some (.slice a n c) := (by rw [b0.cell]; rfl); have hk2 : w1.cell? ⟨w.heap.size, 2, none⟩ = some (.bool b) := (by rw [b0.cell]; rfl); have hk3 : w1.cell? ⟨w.heap.size, 3, none⟩ = some (.int .i64 t) := (by rw [b0.cell]; rfl); have ho0 : w1.cell? ⟨w.heap.size + 1, 0, none⟩ = some (.int .i64 3) := (by rw [b1.cell]; rfl); have ho1 : w1.cell? ⟨w.heap.size + 1, 1, none⟩ = some (.int .i64 oa) := (by rw [b1.cell]; rfl); have ho2 : w1.cell? ⟨w.heap.size + 1, 2, none⟩ = some (.int .i64 ob) := (by rw [b1.cell]; rfl); have hr0 : w1.cell? ⟨w.heap.size + 1 + 1, 0, none⟩ = some (.int .i64 0) := (by rw [b2.cell]; rfl); have hr1 : w1.cell? ⟨w.heap.size + 1 + 1, 1, none⟩ = some (.slice none 0 0) := (by rw [b2.cell]; rfl); have hr2 : w1.cell? ⟨w.heap.size + 1 + 1, 2, none⟩ = some (.bool false) := (by rw [b2.cell]; rfl); have hr3 : w1.cell? ⟨w.heap.size + 1 + 1, 3, none⟩ = some (.int .i64 0) := (by rw [b2.cell]; rfl); have hfz0 := b0.frozen 1; have hfr0 := b2.frozen 0; have hfr1 := b2.frozen 1; have hfr2 := b2.frozen 2; have hfr3 := b2.frozen 3; have B0 := Lib.hid b0; have B2 := Lib.hid b2; have HB4 := Lib.hid hb4; clear b0 b1 b2 hB hb4 hBX; have HO1 := Lib.hid hown; have HAT := Lib.hid hat; clear hown hgrow hat)
  refine (HCa _).out.mono ?_
  rintro e w2 ⟨rfl, rfl⟩
  clear hk0 hk1 hk2 hk3 ho0 ho1 ho2 hr0 hr1 hr2 hr3 hfz0 hfr0 hfr1 hfr2 hfr3 B0 B2 HB4
  go_wp2_with (at_builtin; refine wpList_append_own_at _ rfl _ _ 22 rfl 0 3 i0 (.int .i64 0) 1 8 Try.underlying22 hi hz0 hz1 hz2 rfl (by decide) v1 _ _ rfl (own_keeps (F := fun _ => False) HO1.out ((Keeps.refl _ _).alloc _) (by simp)) ⟨w2.heap.size, 0, none⟩ 1 1 [.int .i64 y] rfl (by simp) (new_one _ _ _) (by simp [Value.oneCell']) (by rw [← HN.out]; simp only [maxLen]; omega) (by rw [← HN.out]; omega) (Nat.zero_le _) ?_; intro v2 w4 hown hgrow hnil hat; clear hnil; obtain ⟨g, c2, rfl, g1, g2⟩ := own_open hown (by omega); have hBX := (HBX.out.alloc (by have := HBX.out.size; simp at this; omega) (.cells #[.int .i64 y] 3)).grown hgrow (by have := HBX.out.size; simp at this; rw [World.size_alloc]; omega) (fun q hq => by have := HAT.out q hq; simp at this; omega); have hgf : w.heap.size ≤ g := (by (have h3 := HBX.out.size; simp at h3; rcases hat with e | e; (have := HAT.out g (e ▸ rfl); simp at this; omega); (simp [Value.ownBlock] at e; omega))); have hB := hBX; obtain ⟨b0, b1, b2, hz4, hb4⟩ := box_facts hB; have hk0 : w4.cell? ⟨w.heap.size, 0, none⟩ = some (.int .i64 k) := (by rw [b0.cell]; rfl); have hk1 : w4.cell? ⟨w.heap.size, 1, none⟩ = some (.slice a n c) := (by rw [b0.cell]; rfl); have hk2 : w4.cell? ⟨w.heap.size, 2, none⟩ = some (.bool b) := (by rw [b0.cell]; rfl); have hk3 : w4.cell? ⟨w.heap.size, 3, none⟩ = some (.int .i64 t) := (by rw [b0.cell]; rfl); have ho0 : w4.cell? ⟨w.heap.size + 1, 0, none⟩ = some (.int .i64 3) := (by rw [b1.cell]; rfl); have ho1 : w4.cell? ⟨w.heap.size + 1, 1, none⟩ = some (.int .i64 oa) := (by rw [b1.cell]; rfl); have ho2 : w4.cell? ⟨w.heap.size + 1, 2, none⟩ = some (.int .i64 ob) := (by rw [b1.cell]; rfl); have hr0 : w4.cell? ⟨w.heap.size + 1 + 1, 0, none⟩ = some (.int .i64 0) := (by rw [b2.cell]; rfl); have hr1 : w4.cell? ⟨w.heap.size + 1 + 1, 1, none⟩ = some (.slice none 0 0) := (by rw [b2.cell]; rfl); have hr2 : w4.cell? ⟨w.heap.size + 1 + 1, 2, none⟩ = some (.bool false) := (by rw [b2.cell]; rfl); have hr3 : w4.cell? ⟨w.heap.size + 1 + 1, 3, none⟩ = some (.int .i64 0) := (by rw [b2.cell]; rfl); have hfz0 := b0.frozen 1; have hfr0 := b2.frozen 0; have hfr1 := b2.frozen 1; have hfr2 := b2.frozen 2; have hfr3 := b2.frozen 3; have B0 := Lib.hid b0; have B2 := Lib.hid b2; have HB4 := Lib.hid hb4; clear b0 b1 b2 hB hb4 hBX; have HGF := Lib.hid hgf; have HO2 := Lib.hid hown; clear hown hgrow hat hgf)
  refine bodyPost_ret (v := .tuple #[.agg #[.int .i64 k, .slice (some ⟨g, 0, none⟩) (L.length + 1) c2, .bool b, .int .i64 t], .int .i64 ((n : Int) + 1)]) ?_ rfl ?_
  · simp [results, Try.results44, go_sem, hr0, hr1, hr2, hr3]
  · have h2 := HO2.out
    rw [show ints L ++ [Value.int .i64 y] = ints (L ++ [y]) by simp [ints]] at h2
    exact stepq_own B0.out B2.out (sets_keeps _ _ _ _ _ _ _ _) HB4.out (Nat.le_refl _) (by omega) h2 HGF.out (own_rd h2) _ _ _ _
end Go.Proofs.Ytjfenjnnpikkdaa
/- Layer 4, the document's answer: list, the queue's pop. -/
namespace Go.Proofs.Ytjfenjnnpikkdaa
set_option maxRecDepth 100000
open Go.RowKit
open Go.Proofs.YtjfenjnnpikkdaaW.PrintLast

set_option maxRecDepth 100000 in
set_option maxHeartbeats 6400000 in
theorem r_list_popq {w : World} {a : Option Addr} {c n : Nat} {L : List Int} {b : Bool} {t oa ob : Int} {f : Nat → Int} (hx : Rd w (.slice a n c) L) (hn : n = L.length) (hf : ∀ i, f i = L.getD i 0) (hn64 : n ≤ 64) (h0 : n ≠ 0) :
    Calls Try.prog 44 #[.agg #[.int .i64 2, .slice a n c, .bool b, .int .i64 t], .agg #[.int .i64 4, .int .i64 oa, .int .i64 ob]] w (StepQ w (.slice a n c) (lineS ⟨2, L, b, t⟩ ⟨4, oa, ob⟩)) := by
  have HX := Lib.hid hx
  have HN := Lib.hid hn
  have HF := Lib.hid hf
  have h0' : ((n : Int) == 0) = false := by simp; omega
  obtain ⟨x, hfx⟩ : ∃ x, f 0 = x := ⟨_, rfl⟩
  have hr : lineS ⟨2, L, b, t⟩ ⟨4, oa, ob⟩ = (⟨2, L.drop 1, b, t⟩, x) := by
    have h0' : ¬ L = [] := fun e => by rw [e] at HN; exact h0 HN.out
    simp [lineS, ← HN.out, h0, ← hfx, HF.out]
  rw [hr]
  have HX3 := Lib.hid (HX.out.below (below3 w (.cells #[.int .i64 2, .slice a n c, .bool b, .int .i64 t] 24) (.cells #[.int .i64 4, .int .i64 oa, .int .i64 ob] 37) (.cells #[.int .i64 0, .slice none 0 0, .bool false, .int .i64 0] 24)) (Nat.le_refl _))
  clear hr hx hn hf
  have hnp : 0 < n := by omega
  go_enter Try.func44, Try.ntmps44
  go_wp2_with (at_builtin; refine wpList_copy_nil rfl _ _ rfl rfl _ L rfl HX3.out (by rw [← HN.out]; omega) ?_; intro v1 w1 hown hgrow hat; rw [← HN.out] at hown; obtain ⟨g, c1, rfl, g1, g2⟩ := own_open hown (by omega); have hxc := World.ownsRow.cellAt hown 0 (by omega); rw [ints_get _ _ (by rw [← HN.out]; omega), ← HF.out, hfx] at hxc; have hgl := own_lt hown rfl; have hgf : w.heap.size ≤ g := (by have := hat g rfl; simp at this; omega); have HGF := Lib.hid hgf; clear hgf; have hgne : g ≠ w.heap.size ∧ g ≠ w.heap.size + 1 + 1 := (by have := hat g rfl; simp at this; omega); obtain ⟨hgn1, hgn2⟩ := hgne; have hgn1' := Ne.symm hgn1; have hgn2' := Ne.symm hgn2; have hBX := (Below.refl (w.heap.size + 1 + 1 + 1) (((w.alloc (.cells #[.int .i64 2, .slice a n c, .bool b, .int .i64 t] 24)).alloc (.cells #[.int .i64 4, .int .i64 oa, .int .i64 ob] 37)).alloc (.cells #[.int .i64 0, .slice none 0 0, .bool false, .int .i64 0] 24))).grown hgrow (by simp) (by simp); have HBX := Lib.hid hBX; have hB := hBX; obtain ⟨b0, b1, b2, hz4, hb4⟩ := box_facts hB; have hk0 : w1.cell? ⟨w.heap.size, 0, none⟩ = some (.int .i64 2) := (by rw [b0.cell]; rfl); have hk1 : w1.cell? ⟨w.heap.size, 1, none⟩ = some (.slice a n c) := (by rw [b0.cell]; rfl); have hk2 : w1.cell? ⟨w.heap.size, 2, none⟩ = some (.bool b) := (by rw [b0.cell]; rfl); have hk3 : w1.cell? ⟨w.heap.size, 3, none⟩ = some (.int .i64 t) := (by rw [b0.cell]; rfl); have ho0 : w1.cell? ⟨w.heap.size + 1, 0, none⟩ = some (.int .i64 4) := (by rw [b1.cell]; rfl); have ho1 : w1.cell? ⟨w.heap.size + 1, 1, none⟩ = some (.int .i64 oa) := (by rw [b1.cell]; rfl); have ho2 : w1.cell? ⟨w.heap.size + 1, 2, none⟩ = some (.int .i64 ob) := (by rw [b1.cell]; rfl); have hr0 : w1.cell? ⟨w.heap.size + 1 + 1, 0, none⟩ = some (.int .i64 0) := (by rw [b2.cell]; rfl); have hr1 : w1.cell? ⟨w.heap.size + 1 + 1, 1, none⟩ = some (.slice none 0 0) := (by rw [b2.cell]; rfl); have hr2 : w1.cell? ⟨w.heap.size + 1 + 1, 2, none⟩ = some (.bool false) := (by rw [b2.cell]; rfl); have hr3 : w1.cell? ⟨w.heap.size + 1 + 1, 3, none⟩ = some (.int .i64 0) := (by rw [b2.cell]; rfl); have hfz0 := b0.frozen 1; have hfr0 := b2.frozen 0; have hfr1 := b2.frozen 1; have hfr2 := b2.frozen 2; have hfr3 := b2.frozen 3; have B0 := Lib.hid b0; have B2 := Lib.hid b2; have HB4 := Lib.hid hb4; clear b0 b1 b2 hB hb4 hBX; have HO1 := Lib.hid hown; have HAT := Lib.hid hat; clear hown hgrow hat)
  · have q0 := (B0.out.set 1 (.slice (some ⟨g, 0, none⟩) (n - 1) 0)).cell 0
    have q1 := (B0.out.set 1 (.slice (some ⟨g, 0, none⟩) (n - 1) 0)).cell 1
    have q2 := (B0.out.set 1 (.slice (some ⟨g, 0, none⟩) (n - 1) 0)).cell 2
    have q3 := (B0.out.set 1 (.slice (some ⟨g, 0, none⟩) (n - 1) 0)).cell 3
    have qx : (w1.setCell ⟨w.heap.size, 1, none⟩ (.slice (some ⟨g, 0, none⟩) (n - 1) 0)).cell? ⟨g, 0, none⟩ = some (.int .i64 x) := ((Keeps.one w1 ⟨w.heap.size, 1, none⟩ (.slice (some ⟨g, 0, none⟩) (n - 1) 0)).cellSome (p := ⟨g, 0, none⟩) (by simpa using hgn1) hxc)
    simp at q0 q1 q2 q3
    refine start_ (n := 6) (S := fun w' => w'.cell? ⟨w.heap.size, 0, none⟩ = some (.int .i64 2) ∧ w'.cell? ⟨w.heap.size, 1, none⟩ = some (.slice (some ⟨g, 0, none⟩) (n - 1) 0) ∧ w'.cell? ⟨w.heap.size, 2, none⟩ = some (.bool b) ∧ w'.cell? ⟨w.heap.size, 3, none⟩ = some (.int .i64 t) ∧ w'.cell? ⟨g, 0, none⟩ = some (.int .i64 x)) (ds := []) #[false, false, false, false, false, false] (by kernel_rfl) rfl rfl ⟨q0, q1, q2, q3, qx⟩ (fun hHeld => ?_)
    refine pure_ (i := 1) (N := some 48) (v := ?_) (a' := ?_) #[false, true, false, false, false, false] rfl rfl (by kernel_rfl) (fun _ _ _ h => h) (Or.inl ⟨by rfl, ?_⟩) ?_ ?_
    rotate_left
    · intro w'
      go_simp
      with_reducible rfl
    rotate_left
    · simp only [Act.put, nA, nB, nC, i64_w, i32_w]
      rfl
    refine pure_ (i := 2) (N := some 49) (v := ?_) (a' := ?_) #[false, true, true, false, false, false] rfl rfl (by kernel_rfl) (fun _ _ _ h => h) (Or.inl ⟨by rfl, ?_⟩) ?_ ?_
    rotate_left
    · intro w'
      go_simp
      with_reducible rfl
    rotate_left
    · simp only [Act.put, nA, nB, nC, i64_w, i32_w]
      rfl
    refine take_ (i := 0) (N := some 47) (v := ?_) (a' := ?_) #[true, true, true, false, false, false] rfl rfl (by kernel_rfl) (fun _ _ _ h => h) (Or.inl ⟨by rfl, ?_⟩) hHeld ?_ ?_
    rotate_left
    · rintro w' ⟨s0, s1, s2, s3, s4⟩
      go_simp
      with_reducible rfl
    rotate_left
    · simp only [Act.put, nA, nB, nC, i64_w, i32_w]
      rfl
    refine take_ (i := 3) (N := some 50) (v := ?_) (a' := ?_) #[true, true, true, true, false, false] rfl rfl (by kernel_rfl) (fun _ _ _ h => h) (Or.inl ⟨by rfl, ?_⟩) hHeld ?_ ?_
    rotate_left
    · rintro w' ⟨s0, s1, s2, s3, s4⟩
      go_simp
      with_reducible rfl
    rotate_left
    · simp only [Act.put, nA, nB, nC, i64_w, i32_w]
      rfl
    refine one_ (i := 4) (N := none) #[true, true, true, true, true, false] rfl rfl (by kernel_rfl) (by decide) (fun K hK => ?_)
    refine skip_ (w1 := ?_) (by rfl) rfl ?_ ?_
    rotate_left
    · go_simp
      rfl
    try clear hHeld
    refine hK.out _ _ ⟨(res_cell (by simp; omega) q0 _ _ _ _), (res_cell (by simp; omega) q1 _ _ _ _), (res_cell (by simp; omega) q2 _ _ _ _), (res_cell (by simp; omega) q3 _ _ _ _), (res_cell (by simp; omega) qx _ _ _ _)⟩ (fun hHeld => ?_)
    clear hK K
    refine pure_ (i := 5) (N := some 5) (v := ?_) (a' := ?_) #[true, true, true, true, true, true] rfl rfl (by kernel_rfl) (fun _ _ _ h => h) (Or.inl ⟨by rfl, ?_⟩) ?_ ?_
    rotate_left
    · intro w'
      go_simp
      with_reducible rfl
    rotate_left
    · simp only [Act.put, nA, nB, nC, i64_w, i32_w]
      rfl
    try clear hHeld
    refine done_ (by kernel_rfl) ?_
    clear q0 q1 q2 q3 qx hxc
    go_wp2_with fail
    refine bodyPost_ret (v := .tuple #[.agg #[.int .i64 2, .slice (some ⟨g, 0, none⟩) (n - 1) 0, .bool b, .int .i64 t], .int .i64 x]) ?_ rfl ?_
    · simp [results, Try.results44, go_sem, hr0, hr1, hr2, hr3]
    · have h2 := HO1.out
      have e1 : n - 1 = 0 := by omega
      have e2 : L.drop 1 = [] := List.drop_eq_nil_of_le (by rw [← HN.out]; omega)
      exact stepq_own B0.out B2.out (sets_keepsd _ _ _ _ _ _ _ _) HB4.out (Nat.le_refl _) (by omega) h2 HGF.out (by rw [e1, e2]; exact rd_empty _ _ _ (by omega)) _ _ _ _
  · have q0 := (B0.out.set 1 (.slice (some ⟨g, 1, none⟩) (n - 1) (c1 - 1))).cell 0
    have q1 := (B0.out.set 1 (.slice (some ⟨g, 1, none⟩) (n - 1) (c1 - 1))).cell 1
    have q2 := (B0.out.set 1 (.slice (some ⟨g, 1, none⟩) (n - 1) (c1 - 1))).cell 2
    have q3 := (B0.out.set 1 (.slice (some ⟨g, 1, none⟩) (n - 1) (c1 - 1))).cell 3
    have qx : (w1.setCell ⟨w.heap.size, 1, none⟩ (.slice (some ⟨g, 1, none⟩) (n - 1) (c1 - 1))).cell? ⟨g, 0, none⟩ = some (.int .i64 x) := ((Keeps.one w1 ⟨w.heap.size, 1, none⟩ (.slice (some ⟨g, 1, none⟩) (n - 1) (c1 - 1))).cellSome (p := ⟨g, 0, none⟩) (by simpa using hgn1) hxc)
    simp at q0 q1 q2 q3
    refine start_ (n := 6) (S := fun w' => w'.cell? ⟨w.heap.size, 0, none⟩ = some (.int .i64 2) ∧ w'.cell? ⟨w.heap.size, 1, none⟩ = some (.slice (some ⟨g, 1, none⟩) (n - 1) (c1 - 1)) ∧ w'.cell? ⟨w.heap.size, 2, none⟩ = some (.bool b) ∧ w'.cell? ⟨w.heap.size, 3, none⟩ = some (.int .i64 t) ∧ w'.cell? ⟨g, 0, none⟩ = some (.int .i64 x)) (ds := []) #[false, false, false, false, false, false] (by kernel_rfl) rfl rfl ⟨q0, q1, q2, q3, qx⟩ (fun hHeld => ?_)
    refine pure_ (i := 1) (N := some 48) (v := ?_) (a' := ?_) #[false, true, false, false, false, false] rfl rfl (by kernel_rfl) (fun _ _ _ h => h) (Or.inl ⟨by rfl, ?_⟩) ?_ ?_
    rotate_left
    · intro w'
      go_simp
      with_reducible rfl
    rotate_left
    · simp only [Act.put, nA, nB, nC, i64_w, i32_w]
      rfl
    refine pure_ (i := 2) (N := some 49) (v := ?_) (a' := ?_) #[false, true, true, false, false, false] rfl rfl (by kernel_rfl) (fun _ _ _ h => h) (Or.inl ⟨by rfl, ?_⟩) ?_ ?_
    rotate_left
    · intro w'
      go_simp
      with_reducible rfl
    rotate_left
    · simp only [Act.put, nA, nB, nC, i64_w, i32_w]
      rfl
    refine take_ (i := 0) (N := some 47) (v := ?_) (a' := ?_) #[true, true, true, false, false, false] rfl rfl (by kernel_rfl) (fun _ _ _ h => h) (Or.inl ⟨by rfl, ?_⟩) hHeld ?_ ?_
    rotate_left
    · rintro w' ⟨s0, s1, s2, s3, s4⟩
      go_simp
      with_reducible rfl
    rotate_left
    · simp only [Act.put, nA, nB, nC, i64_w, i32_w]
      rfl
    refine take_ (i := 3) (N := some 50) (v := ?_) (a' := ?_) #[true, true, true, true, false, false] rfl rfl (by kernel_rfl) (fun _ _ _ h => h) (Or.inl ⟨by rfl, ?_⟩) hHeld ?_ ?_
    rotate_left
    · rintro w' ⟨s0, s1, s2, s3, s4⟩
      go_simp
      with_reducible rfl
    rotate_left
    · simp only [Act.put, nA, nB, nC, i64_w, i32_w]
      rfl
    refine one_ (i := 4) (N := none) #[true, true, true, true, true, false] rfl rfl (by kernel_rfl) (by decide) (fun K hK => ?_)
    refine skip_ (w1 := ?_) (by rfl) rfl ?_ ?_
    rotate_left
    · go_simp
      rfl
    try clear hHeld
    refine hK.out _ _ ⟨(res_cell (by simp; omega) q0 _ _ _ _), (res_cell (by simp; omega) q1 _ _ _ _), (res_cell (by simp; omega) q2 _ _ _ _), (res_cell (by simp; omega) q3 _ _ _ _), (res_cell (by simp; omega) qx _ _ _ _)⟩ (fun hHeld => ?_)
    clear hK K
    refine pure_ (i := 5) (N := some 5) (v := ?_) (a' := ?_) #[true, true, true, true, true, true] rfl rfl (by kernel_rfl) (fun _ _ _ h => h) (Or.inl ⟨by rfl, ?_⟩) ?_ ?_
    rotate_left
    · intro w'
      go_simp
      with_reducible rfl
    rotate_left
    · simp only [Act.put, nA, nB, nC, i64_w, i32_w]
      rfl
    try clear hHeld
    refine done_ (by kernel_rfl) ?_
    clear q0 q1 q2 q3 qx hxc
    go_wp2_with fail
    refine bodyPost_ret (v := .tuple #[.agg #[.int .i64 2, .slice (some ⟨g, 1, none⟩) (n - 1) (c1 - 1), .bool b, .int .i64 t], .int .i64 x]) ?_ rfl ?_
    · simp [results, Try.results44, go_sem, hr0, hr1, hr2, hr3]
    · have h2 := HO1.out
      exact stepq_own B0.out B2.out (sets_keepsd _ _ _ _ _ _ _ _) HB4.out (Nat.le_refl _) (by omega) h2 HGF.out (own_rd_drop h2 (by omega)) _ _ _ _
end Go.Proofs.Ytjfenjnnpikkdaa
/- Layer 4, the document's answer: list, the stack's pop. -/
namespace Go.Proofs.Ytjfenjnnpikkdaa
set_option maxRecDepth 100000
open Go.RowKit
open Go.Proofs.YtjfenjnnpikkdaaW.PrintLast

set_option maxRecDepth 100000 in
set_option maxHeartbeats 6400000 in
theorem r_list_pops {w : World} {a : Option Addr} {c n : Nat} {L : List Int} {b : Bool} {t oa ob : Int} {f : Nat → Int} (hx : Rd w (.slice a n c) L) (hn : n = L.length) (hf : ∀ i, f i = L.getD i 0) (hn64 : n ≤ 64) (h0 : n ≠ 0) :
    Calls Try.prog 44 #[.agg #[.int .i64 3, .slice a n c, .bool b, .int .i64 t], .agg #[.int .i64 4, .int .i64 oa, .int .i64 ob]] w (StepQ w (.slice a n c) (lineS ⟨3, L, b, t⟩ ⟨4, oa, ob⟩)) := by
  obtain ⟨m, rfl⟩ : ∃ m, n = m + 1 := ⟨n - 1, by omega⟩
  have hmw : IntKind.i64.wrap (((m + 1 : Nat) : Int) - 1) = (m : Int) := by rw [show ((m + 1 : Nat) : Int) - 1 = (m : Int) by omega]; exact IntWalk.i64_in _ (by omega)
  have hmw' : IntKind.i64.wrap ((m : Int) + 1 - 1) = (m : Int) := by rw [show (m : Int) + 1 - 1 = (m : Int) by omega]; exact IntWalk.i64_in _ (by omega)
  have hm0 : (((m + 1 : Nat) : Int) == 0) = false := by simp; omega
  have hm1 : m < m + 1 := by omega
  have hm4 : (m : Int) < (m : Int) + 1 := by omega
  have hmw3 : Go.RowKit.wrap64 (m : Int) = (m : Int) := by unfold Go.RowKit.wrap64; omega
  have HX := Lib.hid hx
  have HN := Lib.hid hn
  have HF := Lib.hid hf
  have h0' : (((m + 1 : Nat) : Int) == 0) = false := by simp; omega
  obtain ⟨x, hfx⟩ : ∃ x, f m = x := ⟨_, rfl⟩
  have hr : lineS ⟨3, L, b, t⟩ ⟨4, oa, ob⟩ = (⟨3, L.take m, b, t⟩, x) := by
    have h0' : ¬ L = [] := fun e => by rw [e] at HN; exact h0 HN.out
    simp [lineS, ← HN.out, h0, ← hfx, HF.out]
  rw [hr]
  have HX3 := Lib.hid (HX.out.below (below3 w (.cells #[.int .i64 3, .slice a (m + 1) c, .bool b, .int .i64 t] 24) (.cells #[.int .i64 4, .int .i64 oa, .int .i64 ob] 37) (.cells #[.int .i64 0, .slice none 0 0, .bool false, .int .i64 0] 24)) (Nat.le_refl _))
  clear hr hx hn hf
  go_enter Try.func44, Try.ntmps44
  go_wp2_with (at_builtin; refine wpList_copy_nil rfl _ _ rfl rfl _ L rfl HX3.out (by rw [← HN.out]; omega) ?_; intro v1 w1 hown hgrow hat; rw [← HN.out] at hown; obtain ⟨g, c1, rfl, g1, g2⟩ := own_open hown (by omega); have hxc := World.ownsRow.cellAt hown m (by omega); rw [ints_get _ _ (by rw [← HN.out]; omega), ← HF.out, hfx] at hxc; have hgl := own_lt hown rfl; have hgf : w.heap.size ≤ g := (by have := hat g rfl; simp at this; omega); have HGF := Lib.hid hgf; clear hgf; have hgne : g ≠ w.heap.size ∧ g ≠ w.heap.size + 1 + 1 := (by have := hat g rfl; simp at this; omega); obtain ⟨hgn1, hgn2⟩ := hgne; have hgn1' := Ne.symm hgn1; have hgn2' := Ne.symm hgn2; have hBX := (Below.refl (w.heap.size + 1 + 1 + 1) (((w.alloc (.cells #[.int .i64 3, .slice a (m + 1) c, .bool b, .int .i64 t] 24)).alloc (.cells #[.int .i64 4, .int .i64 oa, .int .i64 ob] 37)).alloc (.cells #[.int .i64 0, .slice none 0 0, .bool false, .int .i64 0] 24))).grown hgrow (by simp) (by simp); have HBX := Lib.hid hBX; have hB := hBX; obtain ⟨b0, b1, b2, hz4, hb4⟩ := box_facts hB; have hk0 : w1.cell? ⟨w.heap.size, 0, none⟩ = some (.int .i64 3) := (by rw [b0.cell]; rfl); have hk1 : w1.cell? ⟨w.heap.size, 1, none⟩ = some (.slice a (m + 1) c) := (by rw [b0.cell]; rfl); have hk2 : w1.cell? ⟨w.heap.size, 2, none⟩ = some (.bool b) := (by rw [b0.cell]; rfl); have hk3 : w1.cell? ⟨w.heap.size, 3, none⟩ = some (.int .i64 t) := (by rw [b0.cell]; rfl); have ho0 : w1.cell? ⟨w.heap.size + 1, 0, none⟩ = some (.int .i64 4) := (by rw [b1.cell]; rfl); have ho1 : w1.cell? ⟨w.heap.size + 1, 1, none⟩ = some (.int .i64 oa) := (by rw [b1.cell]; rfl); have ho2 : w1.cell? ⟨w.heap.size + 1, 2, none⟩ = some (.int .i64 ob) := (by rw [b1.cell]; rfl); have hr0 : w1.cell? ⟨w.heap.size + 1 + 1, 0, none⟩ = some (.int .i64 0) := (by rw [b2.cell]; rfl); have hr1 : w1.cell? ⟨w.heap.size + 1 + 1, 1, none⟩ = some (.slice none 0 0) := (by rw [b2.cell]; rfl); have hr2 : w1.cell? ⟨w.heap.size + 1 + 1, 2, none⟩ = some (.bool false) := (by rw [b2.cell]; rfl); have hr3 : w1.cell? ⟨w.heap.size + 1 + 1, 3, none⟩ = some (.int .i64 0) := (by rw [b2.cell]; rfl); have hfz0 := b0.frozen 1; have hfr0 := b2.frozen 0; have hfr1 := b2.frozen 1; have hfr2 := b2.frozen 2; have hfr3 := b2.frozen 3; have B0 := Lib.hid b0; have B2 := Lib.hid b2; have HB4 := Lib.hid hb4; clear b0 b1 b2 hB hb4 hBX; have HO1 := Lib.hid hown; have HAT := Lib.hid hat; clear hown hgrow hat)
  · have q0 := (B0.out.set 1 (.slice (some ⟨g, 0, none⟩) m c1)).cell 0
    have q1 := (B0.out.set 1 (.slice (some ⟨g, 0, none⟩) m c1)).cell 1
    have q2 := (B0.out.set 1 (.slice (some ⟨g, 0, none⟩) m c1)).cell 2
    have q3 := (B0.out.set 1 (.slice (some ⟨g, 0, none⟩) m c1)).cell 3
    have qx : (w1.setCell ⟨w.heap.size, 1, none⟩ (.slice (some ⟨g, 0, none⟩) m c1)).cell? ⟨g, m, none⟩ = some (.int .i64 x) := ((Keeps.one w1 ⟨w.heap.size, 1, none⟩ (.slice (some ⟨g, 0, none⟩) m c1)).cellSome (p := ⟨g, m, none⟩) (by simpa using hgn1) hxc)
    simp at q0 q1 q2 q3
    refine start_ (n := 8) (S := fun w' => w'.cell? ⟨w.heap.size, 0, none⟩ = some (.int .i64 3) ∧ w'.cell? ⟨w.heap.size, 1, none⟩ = some (.slice (some ⟨g, 0, none⟩) m c1) ∧ w'.cell? ⟨w.heap.size, 2, none⟩ = some (.bool b) ∧ w'.cell? ⟨w.heap.size, 3, none⟩ = some (.int .i64 t) ∧ w'.cell? ⟨g, m, none⟩ = some (.int .i64 x)) (ds := []) #[false, false, false, false, false, false, false, false] (by kernel_rfl) rfl rfl ⟨q0, q1, q2, q3, qx⟩ (fun hHeld => ?_)
    refine pure_ (i := 1) (N := some 57) (v := ?_) (a' := ?_) #[false, true, false, false, false, false, false, false] rfl rfl (by kernel_rfl) (fun _ _ _ h => h) (Or.inl ⟨by rfl, ?_⟩) ?_ ?_
    rotate_left
    · intro w'
      go_simp
      with_reducible rfl
    rotate_left
    · simp only [Act.put, nA, nB, nC, i64_w, i32_w]
      rfl
    refine pure_ (i := 2) (N := some 58) (v := ?_) (a' := ?_) #[false, true, true, false, false, false, false, false] rfl rfl (by kernel_rfl) (fun _ _ _ h => h) (Or.inl ⟨by rfl, ?_⟩) ?_ ?_
    rotate_left
    · intro w'
      go_simp
      with_reducible rfl
    rotate_left
    · simp only [Act.put, nA, nB, nC, i64_w, i32_w]
      rfl
    refine pure_ (i := 3) (N := some 59) (v := ?_) (a' := ?_) #[false, true, true, true, false, false, false, false] rfl rfl (by kernel_rfl) (fun _ _ _ h => h) (Or.inl ⟨by rfl, ?_⟩) ?_ ?_
    rotate_left
    · intro w'
      go_simp
      with_reducible rfl
    rotate_left
    · simp only [Act.put, nA, nB, nC, i64_w, i32_w]
      rfl
    refine pure_ (i := 4) (N := some 60) (v := ?_) (a' := ?_) #[false, true, true, true, true, false, false, false] rfl rfl (by kernel_rfl) (fun _ _ _ h => h) (Or.inl ⟨by rfl, ?_⟩) ?_ ?_
    rotate_left
    · intro w'
      go_simp
      with_reducible rfl
    rotate_left
    · simp only [Act.put, nA, nB, nC, i64_w, i32_w]
      rfl
    refine take_ (i := 0) (N := some 56) (v := ?_) (a' := ?_) #[true, true, true, true, true, false, false, false] rfl rfl (by kernel_rfl) (fun _ _ _ h => h) (Or.inl ⟨by rfl, ?_⟩) hHeld ?_ ?_
    rotate_left
    · rintro w' ⟨s0, s1, s2, s3, s4⟩
      go_simp
      with_reducible rfl
    rotate_left
    · simp only [Act.put, nA, nB, nC, i64_w, i32_w]
      rfl
    refine take_ (i := 5) (N := some 61) (v := ?_) (a' := ?_) #[true, true, true, true, true, true, false, false] rfl rfl (by kernel_rfl) (fun _ _ _ h => h) (Or.inl ⟨by rfl, ?_⟩) hHeld ?_ ?_
    rotate_left
    · rintro w' ⟨s0, s1, s2, s3, s4⟩
      go_simp
      with_reducible rfl
    rotate_left
    · simp only [Act.put, nA, nB, nC, i64_w, i32_w]
      rfl
    refine one_ (i := 6) (N := none) #[true, true, true, true, true, true, true, false] rfl rfl (by kernel_rfl) (by decide) (fun K hK => ?_)
    refine skip_ (w1 := ?_) (by rfl) rfl ?_ ?_
    rotate_left
    · go_simp
      rfl
    try clear hHeld
    refine hK.out _ _ ⟨(res_cell (by simp; omega) q0 _ _ _ _), (res_cell (by simp; omega) q1 _ _ _ _), (res_cell (by simp; omega) q2 _ _ _ _), (res_cell (by simp; omega) q3 _ _ _ _), (res_cell (by simp; omega) qx _ _ _ _)⟩ (fun hHeld => ?_)
    clear hK K
    refine pure_ (i := 7) (N := some 5) (v := ?_) (a' := ?_) #[true, true, true, true, true, true, true, true] rfl rfl (by kernel_rfl) (fun _ _ _ h => h) (Or.inl ⟨by rfl, ?_⟩) ?_ ?_
    rotate_left
    · intro w'
      go_simp
      with_reducible rfl
    rotate_left
    · simp only [Act.put, nA, nB, nC, i64_w, i32_w]
      rfl
    try clear hHeld
    refine done_ (by kernel_rfl) ?_
    clear q0 q1 q2 q3 qx hxc
    go_wp2_with fail
    refine bodyPost_ret (v := .tuple #[.agg #[.int .i64 3, .slice (some ⟨g, 0, none⟩) m c1, .bool b, .int .i64 t], .int .i64 x]) ?_ rfl ?_
    · simp [results, Try.results44, go_sem, hr0, hr1, hr2, hr3]
    · have h2 := HO1.out
      exact stepq_own B0.out B2.out (sets_keepsd _ _ _ _ _ _ _ _) HB4.out (Nat.le_refl _) (by omega) h2 HGF.out (own_rd_take h2 m (by omega)) _ _ _ _
end Go.Proofs.Ytjfenjnnpikkdaa
/- Layer 4, the document's answer: list. -/
namespace Go.Proofs.Ytjfenjnnpikkdaa
set_option maxRecDepth 100000
open Go.RowKit

set_option maxRecDepth 100000 in
set_option maxHeartbeats 6400000 in
theorem r_list {w : World} {vl : Value} (s : St) (o : Op3) (hx : Rd w vl s.L) (hk : s.kind = 2 ∨ s.kind = 3) (hm : mayB s = true) :
    Calls Try.prog 44 #[.agg #[.int .i64 s.kind, vl, .bool s.isSealed, .int .i64 s.to], .agg #[.int .i64 o.code, .int .i64 o.a, .int .i64 o.b]] w (StepQ w vl (lineS s o)) := by
  have hlen := may_line hk hm
  obtain ⟨k, L, b, t⟩ := s
  obtain ⟨co, oa, ob⟩ := o
  simp only at hx hk hlen hm ⊢
  obtain ⟨n, a, c, f, rfl, hn, hnc, hcm, hf, hv⟩ := hx.view
  have hn64 : n ≤ 64 := by omega
  have SAME := Lib.hid (fun (r : Int) (W : World) (hB : Below w.heap.size w W) => (stepp_same (k := k) (t := t) (n := r) (b := b) hx hB).weak)
  have HX := Lib.hid hx
  have HN := Lib.hid hn
  have HF := Lib.hid hf
  have HV := Lib.hid hv
  have HCa := fun W => Lib.hid (r_cut oa W)
  clear hx hn hf hv hm hlen
  by_cases c3 : co = 3
  · subst c3
    by_cases h64 : n = 64
    · have hr : lineS ⟨k, L, b, t⟩ ⟨3, oa, ob⟩ = (⟨k, L, b, t⟩, -1) := by
        have : ¬ L.length < 64 := by rw [← HN.out]; omega
        simp [lineS, this]
      rw [hr]
      subst h64
      clear hr HCa
      go_enter Try.func44, Try.ntmps44
      go_wp2_with fail
      refine bodyPost_ret (v := .tuple #[.agg #[.int .i64 k, .slice a 64 c, .bool b, .int .i64 t], .int .i64 (-1)]) ?_ rfl ?_
      · simp [results, Try.results44, go_sem]
      · exact SAME.out _ _ (below3 w _ _ _)
    · exact r_list_push HX.out HN.out hn64 h64
  · have c3' : (co == 3) = false := by simpa using c3
    by_cases c4 : co = 4
    · subst c4
      by_cases h0 : n = 0
      · have hr : lineS ⟨k, L, b, t⟩ ⟨4, oa, ob⟩ = (⟨k, L, b, t⟩, -1) := by
          simp [lineS, ← HN.out, h0]
        rw [hr]
        subst h0
        clear hr HCa c3
        go_enter Try.func44, Try.ntmps44
        go_wp2_with fail
        refine bodyPost_ret (v := .tuple #[.agg #[.int .i64 k, .slice a 0 c, .bool b, .int .i64 t], .int .i64 (-1)]) ?_ rfl ?_
        · simp [results, Try.results44, go_sem]
        · exact SAME.out _ _ (below3 w _ _ _)
      rcases hk with rfl | rfl
      · exact r_list_popq HX.out HN.out HF.out hn64 h0
      · exact r_list_pops HX.out HN.out HF.out hn64 h0
    · have c4' : (co == 4) = false := by simpa using c4
      by_cases c7 : co = 7
      · subst c7
        have hr : lineS ⟨k, L, b, t⟩ ⟨7, oa, ob⟩ = (⟨k, L, b, t⟩, (n : Int)) := by simp [lineS, ← HN.out]
        rw [hr]
        clear hr HCa c3 c4
        go_enter Try.func44, Try.ntmps44
        go_wp2_with fail
        refine bodyPost_ret (v := .tuple #[.agg #[.int .i64 k, .slice a n c, .bool b, .int .i64 t], .int .i64 n]) ?_ rfl ?_
        · simp [results, Try.results44, go_sem]
        · exact SAME.out _ _ (below3 w _ _ _)
      · have c7' : (co == 7) = false := by simpa using c7
        have hr : lineS ⟨k, L, b, t⟩ ⟨co, oa, ob⟩ = (⟨k, L, b, t⟩, 0) := by simp [lineS, c3, c4, c7]
        rw [hr]
        clear hr HCa c3 c4 c7
        go_enter Try.func44, Try.ntmps44
        go_wp2_with fail
        refine bodyPost_ret (v := .tuple #[.agg #[.int .i64 k, .slice a n c, .bool b, .int .i64 t], .int .i64 0]) ?_ rfl ?_
        · simp [results, Try.results44, go_sem]
        · exact SAME.out _ _ (below3 w _ _ _)
end Go.Proofs.Ytjfenjnnpikkdaa
/- Layer 4, the document's answer: store. -/
namespace Go.Proofs.Ytjfenjnnpikkdaa
set_option maxRecDepth 100000
open Go.RowKit
open Go.Proofs.YtjfenjnnpikkdaaW.PrintLast

/-- What the document's step of a store tells, by recursion. -/
def rstoreS (s : St) (o : Op3) : St × Int :=
  if ¬ (o.code = 7 ∨ o.code = 6 ∨ o.code = 5) then (s, 0)
  else if o.a < 0 ∨ 255 < o.a then (s, -1)
  else if o.code = 6 then ({ s with L := remR s.L o.a }, hasI s.L o.a)
  else if o.code = 5 then (if findZ s.L o.a < 0 ∧ s.L.length = 128 then (s, -2) else ({ s with L := putR s.L o.a (cutI o.b) }, hasI s.L o.a))
  else (s, hasI s.L o.a)
theorem findZ_neg {l : List Int} {key : Int} : findZ l key < 0 ↔ foundB l key = false := by
  unfold findZ
  cases h : foundB l key
  · simp
  · simp
theorem rstore_eq {s : St} (o : Op3) (h : pairsB s.L (-1099511627776) = true) : rstoreS s o = storeS s o := by
  obtain ⟨h1, h2, h3⟩ := pairsB_iff.1 h
  have e6 : remR s.L o.a = if foundB s.L o.a then delR s.L o.a else s.L := remR_eq h1 h2
  unfold rstoreS storeS
  by_cases c0 : ¬ (o.code = 7 ∨ o.code = 6 ∨ o.code = 5)
  · rw [if_pos c0, if_pos c0]
  · rw [if_neg c0, if_neg c0]
    by_cases c1 : o.a < 0 ∨ 255 < o.a
    · rw [if_pos c1, if_pos c1]
    · rw [if_neg c1, if_neg c1]
      by_cases c6 : o.code = 6
      · cases hf : foundB s.L o.a <;> simp [c6, e6, hf, delL_eq h2]
      · by_cases c5 : o.code = 5
        · by_cases hb : putB s.L o.a = true
          · have hn : ¬ (findZ s.L o.a < 0 ∧ s.L.length = 128) := by
              rintro ⟨q1, q2⟩
              rw [findZ_neg] at q1
              unfold putB at hb
              simp [q1] at hb
              omega
            simp only [c5, hb, hn, putL_eq h2 hb]
            simp
          · have hn : findZ s.L o.a < 0 ∧ s.L.length = 128 := by
              unfold putB at hb
              simp only [Bool.or_eq_true, decide_eq_true_eq, not_or] at hb
              exact ⟨findZ_neg.2 (by simpa using hb.1), by omega⟩
            simp [c5, hb, hn]
        · simp [c6, c5]
theorem find_cell {w : World} {a : Option Addr} {n c : Nat} {L : List Int} (hx : Rd w (.slice a n c) L) (hn : n = L.length) (he : L.length % 2 = 0) (key : Int) :
    (findZ L key = -1 ∧ hasI L key = -1) ∨ ∃ (j bb oo : Nat), findZ L key = (j : Int) ∧ j + 1 < n ∧ a = some ⟨bb, oo, none⟩ ∧ bb < w.heap.size ∧ w.cell? ⟨bb, oo + (j + 1), none⟩ = some (.int .i64 (hasI L key)) := by
  unfold findZ hasI
  cases hf : foundB L key
  · exact .inl ⟨rfl, rfl⟩
  · have hlt := found_lt hf he
    obtain ⟨a', c', e, r1, r2, r3⟩ := hx
    obtain ⟨bb, oo, e1, e2, e3⟩ := r3 (by omega)
    simp only [Value.slice.injEq] at e
    obtain ⟨rfl, _, _⟩ := e
    exact .inr ⟨findI L key, bb, oo, rfl, by omega, e1, e2, e3 _ hlt⟩
theorem below_undrew1 {n : Nat} {W w1 : World} (h : Below n W.drew w1) : Below n W w1 := ⟨h.os, h.tape, h.output, h.size, h.block⟩
/-- What find tells, and where. -/
def FindC (w : World) (a : Option Addr) (n : Nat) (i had : Int) : Prop := (i = -1 ∧ had = -1) ∨ ∃ (j bb oo : Nat), i = (j : Int) ∧ j + 1 < n ∧ a = some ⟨bb, oo, none⟩ ∧ bb < w.heap.size ∧ w.cell? ⟨bb, oo + (j + 1), none⟩ = some (.int .i64 had)

set_option maxRecDepth 100000 in
set_option maxHeartbeats 6400000 in
theorem r_store_get {w : World} {n c : Nat} {a : Option Addr} {L : List Int} {b : Bool} {t oa ob i had : Int} (n1 : ¬ oa < 0) (n2 : ¬ 255 < oa) (hn3 : n ≤ 128) (HX : Hid (Rd w (.slice a n c) L))
    (HFi : ∀ W, Below w.heap.size w W → Hid (Calls Try.prog 65 #[.slice a n c, .int .i64 oa] W fun e w' => e = .returned (.int .i64 i) ∧ w' = W)) (hi : FindC w a n i had) :
    Calls Try.prog 45 #[.agg #[.int .i64 4, .slice a n c, .bool b, .int .i64 t], .agg #[.int .i64 7, .int .i64 oa, .int .i64 ob]] w (StepQ w (.slice a n c) ((⟨4, L, b, t⟩ : St), had)) := by
  rcases hi with ⟨rfl, rfl⟩ | ⟨j, bb, oo, rfl, h1, rfl, hb, hc⟩
  · skip
    go_enter Try.func45, Try.ntmps45
    go_wp2_with fail
    refine (HFi _ (below3 w _ _ _)).out.mono ?_
    rintro e w1 ⟨rfl, rfl⟩
    go_wp2_with fail
    refine bodyPost_ret (v := .tuple #[.agg #[.int .i64 4, .slice a n c, .bool b, .int .i64 t], .int .i64 (-1)]) ?_ rfl ?_
    · simp [results, Try.results45, go_sem]
    · exact StepP.weak (stepp_same HX.out (below3 w _ _ _))
  · skip
    have hb1 : bb < w.heap.size + 1 := by omega
    have hb2 : bb < w.heap.size + 1 + 1 := by omega
    have hj : j < n := by omega
    go_enter Try.func45, Try.ntmps45
    go_wp2_with fail
    refine (HFi _ (below3 w _ _ _)).out.mono ?_
    rintro e w1 ⟨rfl, rfl⟩
    go_wp2_with fail
    refine bodyPost_ret (v := .tuple #[.agg #[.int .i64 4, .slice (some ⟨bb, oo, none⟩) n c, .bool b, .int .i64 t], .int .i64 had]) ?_ rfl ?_
    · simp [results, Try.results45, go_sem]
    · exact StepP.weak (stepp_same HX.out (below3 w _ _ _))

set_option maxRecDepth 100000 in
set_option maxHeartbeats 6400000 in
theorem r_store_full {w : World} {n c : Nat} {a : Option Addr} {L : List Int} {b : Bool} {t oa ob i had : Int} (n1 : ¬ oa < 0) (n2 : ¬ 255 < oa) (hn3 : n ≤ 128) (HX : Hid (Rd w (.slice a n c) L))
    (HFi : ∀ W, Below w.heap.size w W → Hid (Calls Try.prog 65 #[.slice a n c, .int .i64 oa] W fun e w' => e = .returned (.int .i64 i) ∧ w' = W)) (hi : FindC w a n i had) (hf : i = -1) (hn : n = 128) :
    Calls Try.prog 45 #[.agg #[.int .i64 4, .slice a n c, .bool b, .int .i64 t], .agg #[.int .i64 5, .int .i64 oa, .int .i64 ob]] w (StepQ w (.slice a n c) ((⟨4, L, b, t⟩ : St), -2)) := by
  subst hf
  subst hn
  go_enter Try.func45, Try.ntmps45
  go_wp2_with fail
  refine (HFi _ (below3 w _ _ _)).out.mono ?_
  rintro e w1 ⟨rfl, rfl⟩
  go_wp2_with fail
  refine bodyPost_ret (v := .tuple #[.agg #[.int .i64 4, .slice a 128 c, .bool b, .int .i64 t], .int .i64 (-2)]) ?_ rfl ?_
  · simp [results, Try.results45, go_sem]
  · exact StepP.weak (stepp_same HX.out (below3 w _ _ _))

set_option maxRecDepth 100000 in
set_option maxHeartbeats 6400000 in
theorem r_store_del {w : World} {n c : Nat} {a : Option Addr} {L L2 : List Int} {b : Bool} {t oa ob i had : Int} (n1 : ¬ oa < 0) (n2 : ¬ 255 < oa) (hn3 : n ≤ 128) (HX : Hid (Rd w (.slice a n c) L))
    (HFi : ∀ W, Below w.heap.size w W → Hid (Calls Try.prog 65 #[.slice a n c, .int .i64 oa] W fun e w' => e = .returned (.int .i64 i) ∧ w' = W)) (hi : FindC w a n i had) (HR : ∀ W, Below w.heap.size w W → Hid (Calls Try.prog 66 #[.slice a n c, .int .i64 oa] W (fun e w' => ∃ v', e = .returned v' ∧ OutRel W L2 v' w'))) :
    Calls Try.prog 45 #[.agg #[.int .i64 4, .slice a n c, .bool b, .int .i64 t], .agg #[.int .i64 6, .int .i64 oa, .int .i64 ob]] w (StepQ w (.slice a n c) ((⟨4, L2, b, t⟩ : St), had)) := by
  generalize hL2 : L2.length = m2 at *
  rcases hi with ⟨rfl, rfl⟩ | ⟨j, bb, oo, rfl, h1, rfl, hb, hc⟩
  · skip
    go_enter Try.func45, Try.ntmps45
    go_wp2_with fail
    refine (HFi _ (below3 w _ _ _)).out.mono ?_
    rintro e w1 ⟨rfl, rfl⟩
    go_wp2_with fail
    refine (HR _ (below3 w _ _ _)).out.mono ?_
    rintro e w2 ⟨v2, rfl, hb2, hfr, hown⟩
    rw [hL2] at hown
    obtain ⟨a2, c2, rfl⟩ := own_shape hown
    have hB2 := hb2.mono (by simp : w.heap.size + 1 + 1 + 1 ≤ _)
    obtain ⟨b0, b1, b2, hz4, hb4⟩ := box_facts (k := 4) (t := t) (co := 6) (oa := oa) (ob := ob) (vl := .slice a n c) (b := b) hB2
    have hk0 : w2.cell? ⟨w.heap.size, 0, none⟩ = some (.int .i64 4) := by rw [b0.cell]; rfl
    have hk1 : w2.cell? ⟨w.heap.size, 1, none⟩ = some (.slice a n c) := by rw [b0.cell]; rfl
    have hk2 : w2.cell? ⟨w.heap.size, 2, none⟩ = some (.bool b) := by rw [b0.cell]; rfl
    have hk3 : w2.cell? ⟨w.heap.size, 3, none⟩ = some (.int .i64 t) := by rw [b0.cell]; rfl
    have ho0 : w2.cell? ⟨w.heap.size + 1, 0, none⟩ = some (.int .i64 6) := by rw [b1.cell]; rfl
    have ho1 : w2.cell? ⟨w.heap.size + 1, 1, none⟩ = some (.int .i64 oa) := by rw [b1.cell]; rfl
    have ho2 : w2.cell? ⟨w.heap.size + 1, 2, none⟩ = some (.int .i64 ob) := by rw [b1.cell]; rfl
    have hr0 : w2.cell? ⟨w.heap.size + 1 + 1, 0, none⟩ = some (.int .i64 0) := by rw [b2.cell]; rfl
    have hr1 : w2.cell? ⟨w.heap.size + 1 + 1, 1, none⟩ = some (.slice none 0 0) := by rw [b2.cell]; rfl
    have hr2 : w2.cell? ⟨w.heap.size + 1 + 1, 2, none⟩ = some (.bool false) := by rw [b2.cell]; rfl
    have hr3 : w2.cell? ⟨w.heap.size + 1 + 1, 3, none⟩ = some (.int .i64 0) := by rw [b2.cell]; rfl
    have hfz0 := b0.frozen 0
    have hfz1 := b0.frozen 1
    have hfz2 := b0.frozen 2
    have hfz3 := b0.frozen 3
    have hfr0 := b2.frozen 0
    have hfr1 := b2.frozen 1
    have hfr2 := b2.frozen 2
    have hfr3 := b2.frozen 3
    have B0 := Lib.hid b0
    have B2 := Lib.hid b2
    have HB4 := Lib.hid hb4
    clear b0 b1 b2 hb4
    have HO2 := Lib.hid hown
    have HF2 := Lib.hid (hfr.mono (by simp; omega : w.heap.size ≤ _))
    clear hown hfr hb2 hB2
    go_wp2_with fail
    refine bodyPost_ret (v := .tuple #[.agg #[.int .i64 4, .slice a2 m2 c2, .bool b, .int .i64 t], .int .i64 (-1)]) ?_ rfl ?_
    · simp [results, Try.results45, go_sem, hr0, hr1, hr2, hr3]
    · exact StepP.weak (stepp_own B0.out B2.out (sets_keeps _ _ _ _ _ _ _ _) HB4.out (Nat.le_refl _) (by omega) HO2.out HF2.out _ _ _ _)
  · skip
    have hb1 : bb < w.heap.size + 1 := by omega
    have hb2 : bb < w.heap.size + 1 + 1 := by omega
    have hj : j < n := by omega
    go_enter Try.func45, Try.ntmps45
    go_wp2_with fail
    refine (HFi _ (below3 w _ _ _)).out.mono ?_
    rintro e w1 ⟨rfl, rfl⟩
    go_wp2_with fail
    refine (HR _ (below3 w _ _ _)).out.mono ?_
    rintro e w2 ⟨v2, rfl, hb2, hfr, hown⟩
    rw [hL2] at hown
    obtain ⟨a2, c2, rfl⟩ := own_shape hown
    have hB2 := hb2.mono (by simp : w.heap.size + 1 + 1 + 1 ≤ _)
    obtain ⟨b0, b1, b2, hz4, hb4⟩ := box_facts (k := 4) (t := t) (co := 6) (oa := oa) (ob := ob) (vl := .slice (some ⟨bb, oo, none⟩) n c) (b := b) hB2
    have hk0 : w2.cell? ⟨w.heap.size, 0, none⟩ = some (.int .i64 4) := by rw [b0.cell]; rfl
    have hk1 : w2.cell? ⟨w.heap.size, 1, none⟩ = some (.slice (some ⟨bb, oo, none⟩) n c) := by rw [b0.cell]; rfl
    have hk2 : w2.cell? ⟨w.heap.size, 2, none⟩ = some (.bool b) := by rw [b0.cell]; rfl
    have hk3 : w2.cell? ⟨w.heap.size, 3, none⟩ = some (.int .i64 t) := by rw [b0.cell]; rfl
    have ho0 : w2.cell? ⟨w.heap.size + 1, 0, none⟩ = some (.int .i64 6) := by rw [b1.cell]; rfl
    have ho1 : w2.cell? ⟨w.heap.size + 1, 1, none⟩ = some (.int .i64 oa) := by rw [b1.cell]; rfl
    have ho2 : w2.cell? ⟨w.heap.size + 1, 2, none⟩ = some (.int .i64 ob) := by rw [b1.cell]; rfl
    have hr0 : w2.cell? ⟨w.heap.size + 1 + 1, 0, none⟩ = some (.int .i64 0) := by rw [b2.cell]; rfl
    have hr1 : w2.cell? ⟨w.heap.size + 1 + 1, 1, none⟩ = some (.slice none 0 0) := by rw [b2.cell]; rfl
    have hr2 : w2.cell? ⟨w.heap.size + 1 + 1, 2, none⟩ = some (.bool false) := by rw [b2.cell]; rfl
    have hr3 : w2.cell? ⟨w.heap.size + 1 + 1, 3, none⟩ = some (.int .i64 0) := by rw [b2.cell]; rfl
    have hfz0 := b0.frozen 0
    have hfz1 := b0.frozen 1
    have hfz2 := b0.frozen 2
    have hfz3 := b0.frozen 3
    have hfr0 := b2.frozen 0
    have hfr1 := b2.frozen 1
    have hfr2 := b2.frozen 2
    have hfr3 := b2.frozen 3
    have B0 := Lib.hid b0
    have B2 := Lib.hid b2
    have HB4 := Lib.hid hb4
    clear b0 b1 b2 hb4
    have HO2 := Lib.hid hown
    have HF2 := Lib.hid (hfr.mono (by simp; omega : w.heap.size ≤ _))
    clear hown hfr hb2 hB2
    go_wp2_with fail
    refine bodyPost_ret (v := .tuple #[.agg #[.int .i64 4, .slice a2 m2 c2, .bool b, .int .i64 t], .int .i64 had]) ?_ rfl ?_
    · simp [results, Try.results45, go_sem, hr0, hr1, hr2, hr3]
    · exact StepP.weak (stepp_own B0.out B2.out (sets_keeps _ _ _ _ _ _ _ _) HB4.out (Nat.le_refl _) (by omega) HO2.out HF2.out _ _ _ _)

set_option maxRecDepth 100000 in
set_option maxHeartbeats 6400000 in
theorem r_store_put {w : World} {n c : Nat} {a : Option Addr} {L L2 : List Int} {b : Bool} {t oa ob i had y : Int} (n1 : ¬ oa < 0) (n2 : ¬ 255 < oa) (hn3 : n ≤ 128) (HX : Hid (Rd w (.slice a n c) L))
    (HFi : ∀ W, Below w.heap.size w W → Hid (Calls Try.prog 65 #[.slice a n c, .int .i64 oa] W fun e w' => e = .returned (.int .i64 i) ∧ w' = W)) (hi : FindC w a n i had) (hput : i = -1 → n ≠ 128) (HC : ∀ W, Hid (Calls Try.prog 64 #[.int .i64 ob] W fun e w' => e = .returned (.int .i64 y) ∧ w' = W)) (HR : ∀ W, Below w.heap.size w W → Hid (Calls Try.prog 67 #[.slice a n c, .int .i64 oa, .int .i64 y] W (fun e w' => ∃ v', e = .returned v' ∧ OutRel W L2 v' w'))) :
    Calls Try.prog 45 #[.agg #[.int .i64 4, .slice a n c, .bool b, .int .i64 t], .agg #[.int .i64 5, .int .i64 oa, .int .i64 ob]] w (StepQ w (.slice a n c) ((⟨4, L2, b, t⟩ : St), had)) := by
  generalize hL2 : L2.length = m2 at *
  rcases hi with ⟨rfl, rfl⟩ | ⟨j, bb, oo, rfl, h1, rfl, hb, hc⟩
  · skip
    have hnb : ((n : Int) == 128) = false := by have := hput rfl; simp; omega
    clear hput
    go_enter Try.func45, Try.ntmps45
    go_wp2_with fail
    refine (HFi _ (below3 w _ _ _)).out.mono ?_
    rintro e w1 ⟨rfl, rfl⟩
    go_wp2_with fail
    have HB1 : Hid (Below w.heap.size w (((w.alloc (.cells #[.int .i64 4, .slice a n c, .bool b, .int .i64 t] 24)).alloc (.cells #[.int .i64 5, .int .i64 oa, .int .i64 ob] 37)).alloc (.cells #[.int .i64 0, .slice none 0 0, .bool false, .int .i64 0] 24)).drew) := Lib.hid (below3 w _ _ _).drew
    have hsz : w.heap.size + 1 + 1 + 1 ≤ (((w.alloc (.cells #[.int .i64 4, .slice a n c, .bool b, .int .i64 t] 24)).alloc (.cells #[.int .i64 5, .int .i64 oa, .int .i64 ob] 37)).alloc (.cells #[.int .i64 0, .slice none 0 0, .bool false, .int .i64 0] 24)).drew.heap.size := by simp
    obtain ⟨b0, b1, b2, -, -⟩ := box_facts (Below.refl _ (((w.alloc (.cells #[.int .i64 4, .slice a n c, .bool b, .int .i64 t] 24)).alloc (.cells #[.int .i64 5, .int .i64 oa, .int .i64 ob] 37)).alloc (.cells #[.int .i64 0, .slice none 0 0, .bool false, .int .i64 0] 24)))
    have p0 := b0.cell 1
    have p1 := b1.cell 1
    have p2 := b1.cell 2
    clear b0 b1 b2
    refine start_ (n := 10) (S := fun w' => w'.cell? ⟨w.heap.size, 1, none⟩ = some (.slice a n c) ∧ w'.cell? ⟨w.heap.size + 1, 1, none⟩ = some (.int .i64 oa) ∧ w'.cell? ⟨w.heap.size + 1, 2, none⟩ = some (.int .i64 ob)) (ds := [7, 9]) #[false, false, false, false, false, false, false, false, false, false] (by kernel_rfl) rfl rfl ⟨p0, p1, p2⟩ (fun hHeld => ?_)
    refine pure_ (i := 0) (N := some 65) (v := ?_) (a' := ?_) #[true, false, false, false, false, false, false, false, false, false] rfl rfl (by kernel_rfl) (fun _ _ _ h => h) (Or.inl ⟨by rfl, ?_⟩) ?_ ?_
    rotate_left
    · intro w'
      go_simp
      with_reducible rfl
    rotate_left
    · simp only [Act.put, nA, nB, nC, i64_w, i32_w]
      rfl
    refine pure_ (i := 2) (N := some 67) (v := ?_) (a' := ?_) #[true, false, true, false, false, false, false, false, false, false] rfl rfl (by kernel_rfl) (fun _ _ _ h => h) (Or.inl ⟨by rfl, ?_⟩) ?_ ?_
    rotate_left
    · intro w'
      go_simp
      with_reducible rfl
    rotate_left
    · simp only [Act.put, nA, nB, nC, i64_w, i32_w]
      rfl
    refine pure_ (i := 4) (N := some 69) (v := ?_) (a' := ?_) #[true, false, true, false, true, false, false, false, false, false] rfl rfl (by kernel_rfl) (fun _ _ _ h => h) (Or.inl ⟨by rfl, ?_⟩) ?_ ?_
    rotate_left
    · intro w'
      go_simp
      with_reducible rfl
    rotate_left
    · simp only [Act.put, nA, nB, nC, i64_w, i32_w]
      rfl
    refine take_ (i := 1) (N := some 66) (v := ?_) (a' := ?_) #[true, true, true, false, true, false, false, false, false, false] rfl rfl (by kernel_rfl) (fun _ _ _ h => h) (Or.inl ⟨by rfl, ?_⟩) hHeld ?_ ?_
    rotate_left
    · rintro w' ⟨s0, s1, s2⟩
      go_simp
      with_reducible rfl
    rotate_left
    · simp only [Act.put, nA, nB, nC, i64_w, i32_w]
      rfl
    refine take_ (i := 3) (N := some 68) (v := ?_) (a' := ?_) #[true, true, true, true, true, false, false, false, false, false] rfl rfl (by kernel_rfl) (fun _ _ _ h => h) (Or.inl ⟨by rfl, ?_⟩) hHeld ?_ ?_
    rotate_left
    · rintro w' ⟨s0, s1, s2⟩
      go_simp
      with_reducible rfl
    rotate_left
    · simp only [Act.put, nA, nB, nC, i64_w, i32_w]
      rfl
    refine take_ (i := 5) (N := some 70) (v := ?_) (a' := ?_) #[true, true, true, true, true, true, false, false, false, false] rfl rfl (by kernel_rfl) (fun _ _ _ h => h) (Or.inl ⟨by rfl, ?_⟩) hHeld ?_ ?_
    rotate_left
    · rintro w' ⟨s0, s1, s2⟩
      go_simp
      with_reducible rfl
    rotate_left
    · simp only [Act.put, nA, nB, nC, i64_w, i32_w]
      rfl
    refine one_ (i := 6) (N := some 71) #[true, true, true, true, true, true, true, false, false, false] rfl rfl (by kernel_rfl) (by decide) (fun K hK => ?_)
    refine goes_ Try.func64 (by kernel_rfl) rfl #[.int .i64 ob] (by rfl) rfl rfl (by simp only [List.map_toArray, List.map_cons, List.map_nil]; rfl) ?_
    with_reducible refine ((HC _).out).mono ?_
    rintro e w3 ⟨rfl, rfl⟩
    refine ⟨_, rfl, ?_⟩
    try clear hHeld
    refine hK.out _ _ ⟨p0, p1, p2⟩ (fun hHeld => ?_)
    clear hK K
    refine norm_ (a' := ?_) ?_ ?_
    rotate_left
    · show Act.put _ (some 71) _ = _
      simp only [Act.put, nA, nB, nC, i64_w, i32_w]
      rfl
    refine last_ (i := 7) (N := some 72) #[true, true, true, true, true, true, true, true, false, false] rfl rfl (by kernel_rfl) (by decide) (fun K hK => ?_)
    refine goes_ Try.func67 (by kernel_rfl) rfl #[.slice a n c, .int .i64 oa, .int .i64 y] (by rfl) rfl rfl (by simp only [List.map_toArray, List.map_cons, List.map_nil]; rfl) ?_
    with_reducible refine ((HR _ HB1.out).out).mono ?_
    rintro e w2 ⟨v2, rfl, hb2, hfr, hown⟩
    refine ⟨_, rfl, ?_⟩
    rw [hL2] at hown
    obtain ⟨a2, c2, rfl⟩ := own_shape hown
    have hB2 := below_undrew1 (hb2.mono hsz)
    obtain ⟨b0, b1, b2, hz4, hb4⟩ := box_facts (k := 4) (t := t) (co := 5) (oa := oa) (ob := ob) (vl := .slice a n c) (b := b) hB2
    have hk0 : w2.cell? ⟨w.heap.size, 0, none⟩ = some (.int .i64 4) := by rw [b0.cell]; rfl
    have hk1 : w2.cell? ⟨w.heap.size, 1, none⟩ = some (.slice a n c) := by rw [b0.cell]; rfl
    have hk2 : w2.cell? ⟨w.heap.size, 2, none⟩ = some (.bool b) := by rw [b0.cell]; rfl
    have hk3 : w2.cell? ⟨w.heap.size, 3, none⟩ = some (.int .i64 t) := by rw [b0.cell]; rfl
    have ho0 : w2.cell? ⟨w.heap.size + 1, 0, none⟩ = some (.int .i64 5) := by rw [b1.cell]; rfl
    have ho1 : w2.cell? ⟨w.heap.size + 1, 1, none⟩ = some (.int .i64 oa) := by rw [b1.cell]; rfl
    have ho2 : w2.cell? ⟨w.heap.size + 1, 2, none⟩ = some (.int .i64 ob) := by rw [b1.cell]; rfl
    have hr0 : w2.cell? ⟨w.heap.size + 1 + 1, 0, none⟩ = some (.int .i64 0) := by rw [b2.cell]; rfl
    have hr1 : w2.cell? ⟨w.heap.size + 1 + 1, 1, none⟩ = some (.slice none 0 0) := by rw [b2.cell]; rfl
    have hr2 : w2.cell? ⟨w.heap.size + 1 + 1, 2, none⟩ = some (.bool false) := by rw [b2.cell]; rfl
    have hr3 : w2.cell? ⟨w.heap.size + 1 + 1, 3, none⟩ = some (.int .i64 0) := by rw [b2.cell]; rfl
    have hfz0 := b0.frozen 0
    have hfz1 := b0.frozen 1
    have hfz2 := b0.frozen 2
    have hfz3 := b0.frozen 3
    have hfr0 := b2.frozen 0
    have hfr1 := b2.frozen 1
    have hfr2 := b2.frozen 2
    have hfr3 := b2.frozen 3
    have B0 := Lib.hid b0
    have B2 := Lib.hid b2
    have HB4 := Lib.hid hb4
    clear b0 b1 b2 hb4
    have HO2 := Lib.hid hown
    have HF2 := Lib.hid (hfr.mono (by have := hsz; omega : w.heap.size ≤ _))
    clear hown hfr hb2 hB2
    try clear hHeld
    refine hK.out _ _ ?_
    clear hK K
    refine norm_ (a' := ?_) ?_ ?_
    rotate_left
    · show Act.put _ (some 72) _ = _
      simp only [Act.put, nA, nB, nC, i64_w, i32_w]
      rfl
    refine pure_ (i := 8) (N := some 73) (v := ?_) (a' := ?_) #[true, true, true, true, true, true, true, true, true, false] rfl rfl (by kernel_rfl) (fun _ _ _ h => h) (Or.inl ⟨by rfl, ?_⟩) ?_ ?_
    rotate_left
    · intro w'
      go_simp
      with_reducible rfl
    rotate_left
    · simp only [Act.put, nA, nB, nC, i64_w, i32_w]
      rfl
    refine last_ (i := 9) (N := none) #[true, true, true, true, true, true, true, true, true, true] rfl rfl (by kernel_rfl) (by decide) (fun K hK => ?_)
    refine skip_ (w1 := ?_) (by rfl) rfl ?_ ?_
    rotate_left
    · go_simp
      rfl
    try clear hHeld
    refine hK.out _ _ ?_
    clear hK K
    try clear hHeld
    refine done_ (by kernel_rfl) ?_
    go_wp2_with fail
    refine bodyPost_ret (v := .tuple #[.agg #[.int .i64 4, .slice a2 m2 c2, .bool b, .int .i64 t], .int .i64 (-1)]) ?_ rfl ?_
    · simp [results, Try.results45, go_sem, hr0, hr1, hr2, hr3]
    · exact StepP.weak (stepp_own B0.out B2.out (sets_keeps _ _ _ _ _ _ _ _) HB4.out (Nat.le_refl _) (by omega) HO2.out HF2.out _ _ _ _)
  · skip
    have hb1 : bb < w.heap.size + 1 := by omega
    have hb2 : bb < w.heap.size + 1 + 1 := by omega
    have hj : j < n := by omega
    clear hput
    go_enter Try.func45, Try.ntmps45
    go_wp2_with fail
    refine (HFi _ (below3 w _ _ _)).out.mono ?_
    rintro e w1 ⟨rfl, rfl⟩
    go_wp2_with fail
    have HB1 : Hid (Below w.heap.size w (((w.alloc (.cells #[.int .i64 4, .slice (some ⟨bb, oo, none⟩) n c, .bool b, .int .i64 t] 24)).alloc (.cells #[.int .i64 5, .int .i64 oa, .int .i64 ob] 37)).alloc (.cells #[.int .i64 0, .slice none 0 0, .bool false, .int .i64 0] 24)).drew) := Lib.hid (below3 w _ _ _).drew
    have hsz : w.heap.size + 1 + 1 + 1 ≤ (((w.alloc (.cells #[.int .i64 4, .slice (some ⟨bb, oo, none⟩) n c, .bool b, .int .i64 t] 24)).alloc (.cells #[.int .i64 5, .int .i64 oa, .int .i64 ob] 37)).alloc (.cells #[.int .i64 0, .slice none 0 0, .bool false, .int .i64 0] 24)).drew.heap.size := by simp
    obtain ⟨b0, b1, b2, -, -⟩ := box_facts (Below.refl _ (((w.alloc (.cells #[.int .i64 4, .slice (some ⟨bb, oo, none⟩) n c, .bool b, .int .i64 t] 24)).alloc (.cells #[.int .i64 5, .int .i64 oa, .int .i64 ob] 37)).alloc (.cells #[.int .i64 0, .slice none 0 0, .bool false, .int .i64 0] 24)))
    have p0 := b0.cell 1
    have p1 := b1.cell 1
    have p2 := b1.cell 2
    clear b0 b1 b2
    refine start_ (n := 10) (S := fun w' => w'.cell? ⟨w.heap.size, 1, none⟩ = some (.slice (some ⟨bb, oo, none⟩) n c) ∧ w'.cell? ⟨w.heap.size + 1, 1, none⟩ = some (.int .i64 oa) ∧ w'.cell? ⟨w.heap.size + 1, 2, none⟩ = some (.int .i64 ob)) (ds := [7, 9]) #[false, false, false, false, false, false, false, false, false, false] (by kernel_rfl) rfl rfl ⟨p0, p1, p2⟩ (fun hHeld => ?_)
    refine pure_ (i := 0) (N := some 65) (v := ?_) (a' := ?_) #[true, false, false, false, false, false, false, false, false, false] rfl rfl (by kernel_rfl) (fun _ _ _ h => h) (Or.inl ⟨by rfl, ?_⟩) ?_ ?_
    rotate_left
    · intro w'
      go_simp
      with_reducible rfl
    rotate_left
    · simp only [Act.put, nA, nB, nC, i64_w, i32_w]
      rfl
    refine pure_ (i := 2) (N := some 67) (v := ?_) (a' := ?_) #[true, false, true, false, false, false, false, false, false, false] rfl rfl (by kernel_rfl) (fun _ _ _ h => h) (Or.inl ⟨by rfl, ?_⟩) ?_ ?_
    rotate_left
    · intro w'
      go_simp
      with_reducible rfl
    rotate_left
    · simp only [Act.put, nA, nB, nC, i64_w, i32_w]
      rfl
    refine pure_ (i := 4) (N := some 69) (v := ?_) (a' := ?_) #[true, false, true, false, true, false, false, false, false, false] rfl rfl (by kernel_rfl) (fun _ _ _ h => h) (Or.inl ⟨by rfl, ?_⟩) ?_ ?_
    rotate_left
    · intro w'
      go_simp
      with_reducible rfl
    rotate_left
    · simp only [Act.put, nA, nB, nC, i64_w, i32_w]
      rfl
    refine take_ (i := 1) (N := some 66) (v := ?_) (a' := ?_) #[true, true, true, false, true, false, false, false, false, false] rfl rfl (by kernel_rfl) (fun _ _ _ h => h) (Or.inl ⟨by rfl, ?_⟩) hHeld ?_ ?_
    rotate_left
    · rintro w' ⟨s0, s1, s2⟩
      go_simp
      with_reducible rfl
    rotate_left
    · simp only [Act.put, nA, nB, nC, i64_w, i32_w]
      rfl
    refine take_ (i := 3) (N := some 68) (v := ?_) (a' := ?_) #[true, true, true, true, true, false, false, false, false, false] rfl rfl (by kernel_rfl) (fun _ _ _ h => h) (Or.inl ⟨by rfl, ?_⟩) hHeld ?_ ?_
    rotate_left
    · rintro w' ⟨s0, s1, s2⟩
      go_simp
      with_reducible rfl
    rotate_left
    · simp only [Act.put, nA, nB, nC, i64_w, i32_w]
      rfl
    refine take_ (i := 5) (N := some 70) (v := ?_) (a' := ?_) #[true, true, true, true, true, true, false, false, false, false] rfl rfl (by kernel_rfl) (fun _ _ _ h => h) (Or.inl ⟨by rfl, ?_⟩) hHeld ?_ ?_
    rotate_left
    · rintro w' ⟨s0, s1, s2⟩
      go_simp
      with_reducible rfl
    rotate_left
    · simp only [Act.put, nA, nB, nC, i64_w, i32_w]
      rfl
    refine one_ (i := 6) (N := some 71) #[true, true, true, true, true, true, true, false, false, false] rfl rfl (by kernel_rfl) (by decide) (fun K hK => ?_)
    refine goes_ Try.func64 (by kernel_rfl) rfl #[.int .i64 ob] (by rfl) rfl rfl (by simp only [List.map_toArray, List.map_cons, List.map_nil]; rfl) ?_
    with_reducible refine ((HC _).out).mono ?_
    rintro e w3 ⟨rfl, rfl⟩
    refine ⟨_, rfl, ?_⟩
    try clear hHeld
    refine hK.out _ _ ⟨p0, p1, p2⟩ (fun hHeld => ?_)
    clear hK K
    refine norm_ (a' := ?_) ?_ ?_
    rotate_left
    · show Act.put _ (some 71) _ = _
      simp only [Act.put, nA, nB, nC, i64_w, i32_w]
      rfl
    refine last_ (i := 7) (N := some 72) #[true, true, true, true, true, true, true, true, false, false] rfl rfl (by kernel_rfl) (by decide) (fun K hK => ?_)
    refine goes_ Try.func67 (by kernel_rfl) rfl #[.slice (some ⟨bb, oo, none⟩) n c, .int .i64 oa, .int .i64 y] (by rfl) rfl rfl (by simp only [List.map_toArray, List.map_cons, List.map_nil]; rfl) ?_
    with_reducible refine ((HR _ HB1.out).out).mono ?_
    rintro e w2 ⟨v2, rfl, hb2, hfr, hown⟩
    refine ⟨_, rfl, ?_⟩
    rw [hL2] at hown
    obtain ⟨a2, c2, rfl⟩ := own_shape hown
    have hB2 := below_undrew1 (hb2.mono hsz)
    obtain ⟨b0, b1, b2, hz4, hb4⟩ := box_facts (k := 4) (t := t) (co := 5) (oa := oa) (ob := ob) (vl := .slice (some ⟨bb, oo, none⟩) n c) (b := b) hB2
    have hk0 : w2.cell? ⟨w.heap.size, 0, none⟩ = some (.int .i64 4) := by rw [b0.cell]; rfl
    have hk1 : w2.cell? ⟨w.heap.size, 1, none⟩ = some (.slice (some ⟨bb, oo, none⟩) n c) := by rw [b0.cell]; rfl
    have hk2 : w2.cell? ⟨w.heap.size, 2, none⟩ = some (.bool b) := by rw [b0.cell]; rfl
    have hk3 : w2.cell? ⟨w.heap.size, 3, none⟩ = some (.int .i64 t) := by rw [b0.cell]; rfl
    have ho0 : w2.cell? ⟨w.heap.size + 1, 0, none⟩ = some (.int .i64 5) := by rw [b1.cell]; rfl
    have ho1 : w2.cell? ⟨w.heap.size + 1, 1, none⟩ = some (.int .i64 oa) := by rw [b1.cell]; rfl
    have ho2 : w2.cell? ⟨w.heap.size + 1, 2, none⟩ = some (.int .i64 ob) := by rw [b1.cell]; rfl
    have hr0 : w2.cell? ⟨w.heap.size + 1 + 1, 0, none⟩ = some (.int .i64 0) := by rw [b2.cell]; rfl
    have hr1 : w2.cell? ⟨w.heap.size + 1 + 1, 1, none⟩ = some (.slice none 0 0) := by rw [b2.cell]; rfl
    have hr2 : w2.cell? ⟨w.heap.size + 1 + 1, 2, none⟩ = some (.bool false) := by rw [b2.cell]; rfl
    have hr3 : w2.cell? ⟨w.heap.size + 1 + 1, 3, none⟩ = some (.int .i64 0) := by rw [b2.cell]; rfl
    have hfz0 := b0.frozen 0
    have hfz1 := b0.frozen 1
    have hfz2 := b0.frozen 2
    have hfz3 := b0.frozen 3
    have hfr0 := b2.frozen 0
    have hfr1 := b2.frozen 1
    have hfr2 := b2.frozen 2
    have hfr3 := b2.frozen 3
    have B0 := Lib.hid b0
    have B2 := Lib.hid b2
    have HB4 := Lib.hid hb4
    clear b0 b1 b2 hb4
    have HO2 := Lib.hid hown
    have HF2 := Lib.hid (hfr.mono (by have := hsz; omega : w.heap.size ≤ _))
    clear hown hfr hb2 hB2
    try clear hHeld
    refine hK.out _ _ ?_
    clear hK K
    refine norm_ (a' := ?_) ?_ ?_
    rotate_left
    · show Act.put _ (some 72) _ = _
      simp only [Act.put, nA, nB, nC, i64_w, i32_w]
      rfl
    refine pure_ (i := 8) (N := some 73) (v := ?_) (a' := ?_) #[true, true, true, true, true, true, true, true, true, false] rfl rfl (by kernel_rfl) (fun _ _ _ h => h) (Or.inl ⟨by rfl, ?_⟩) ?_ ?_
    rotate_left
    · intro w'
      go_simp
      with_reducible rfl
    rotate_left
    · simp only [Act.put, nA, nB, nC, i64_w, i32_w]
      rfl
    refine last_ (i := 9) (N := none) #[true, true, true, true, true, true, true, true, true, true] rfl rfl (by kernel_rfl) (by decide) (fun K hK => ?_)
    refine skip_ (w1 := ?_) (by rfl) rfl ?_ ?_
    rotate_left
    · go_simp
      rfl
    try clear hHeld
    refine hK.out _ _ ?_
    clear hK K
    try clear hHeld
    refine done_ (by kernel_rfl) ?_
    go_wp2_with fail
    refine bodyPost_ret (v := .tuple #[.agg #[.int .i64 4, .slice a2 m2 c2, .bool b, .int .i64 t], .int .i64 had]) ?_ rfl ?_
    · simp [results, Try.results45, go_sem, hr0, hr1, hr2, hr3]
    · exact StepP.weak (stepp_own B0.out B2.out (sets_keeps _ _ _ _ _ _ _ _) HB4.out (Nat.le_refl _) (by omega) HO2.out HF2.out _ _ _ _)
theorem may_store {s : St} (hk : s.kind = 4) (hm : mayB s = true) : pairsB s.L (-1099511627776) = true := by
  unfold mayB at hm
  split at hm
  · simp at hm
  · simpa [hk] using hm
set_option maxRecDepth 100000 in
set_option maxHeartbeats 6400000 in
theorem r_store {w : World} {vl : Value} (s : St) (o : Op3) (hx : Rd w vl s.L) (hk : s.kind = 4) (hm : mayB s = true) :
    Calls Try.prog 45 #[.agg #[.int .i64 s.kind, vl, .bool s.isSealed, .int .i64 s.to], .agg #[.int .i64 o.code, .int .i64 o.a, .int .i64 o.b]] w (StepQ w vl (storeS s o)) := by
  have hp := may_store hk hm
  rw [← rstore_eq o hp]
  obtain ⟨p1, p2, p3⟩ := pairsB_iff.1 hp
  obtain ⟨k, L, b, t⟩ := s
  obtain ⟨co, oa, ob⟩ := o
  simp only at hx hk p1 p2 p3 hm hp ⊢
  subst hk
  obtain ⟨a, n, c, rfl, hn⟩ : ∃ a n c, vl = .slice a n c ∧ n = L.length := by
    obtain ⟨a, c, e, _⟩ := hx
    exact ⟨a, _, c, e, rfl⟩
  have HX := Lib.hid hx
  have hn3 : n ≤ 128 := by omega
  have HFi := fun W (hB : Below w.heap.size w W) => Lib.hid (r_find (w := W) (HX.out.below hB (Nat.le_refl _)) p1 p2 p3 oa)
  have HR := fun W (hB : Below w.heap.size w W) => Lib.hid (r_without (w := W) (HX.out.below hB (Nat.le_refl _)) p2 p3 oa)
  have HW := fun W (hB : Below w.heap.size w W) => Lib.hid (r_with (w := W) (HX.out.below hB (Nat.le_refl _)) p1 p2 p3 oa (cutI ob))
  have HC := fun W => Lib.hid (r_cut ob W)
  have hi : FindC w a n (findZ L oa) (hasI L oa) := find_cell hx hn p2 oa
  clear hm hp
  by_cases hc : co = 7 ∨ co = 6 ∨ co = 5
  · by_cases ha : oa < 0 ∨ 255 < oa
    · have hr : rstoreS ⟨4, L, b, t⟩ ⟨co, oa, ob⟩ = ((⟨4, L, b, t⟩ : St), -1) := by simp [rstoreS, hc, ha]
      rw [hr]
      have h2 : oa < 0 ∨ (¬ oa < 0 ∧ 255 < oa) := by omega
      clear hr hx hi HFi HR HW HC ha p1 p2 p3 hn
      rcases hc with rfl | rfl | rfl <;> rcases h2 with h1 | ⟨h1, h2⟩
      all_goals
        go_enter Try.func45, Try.ntmps45
        go_wp2_with fail
        refine bodyPost_ret (v := .tuple #[.agg #[.int .i64 4, .slice a n c, .bool b, .int .i64 t], .int .i64 (-1)]) ?_ rfl ?_
        · simp [results, Try.results45, go_sem]
        · exact StepP.weak (stepp_same HX.out (below3 w _ _ _))
    · have n1 : ¬ oa < 0 := by omega
      have n2 : ¬ 255 < oa := by omega
      rcases hc with rfl | rfl | rfl
      · have hr : rstoreS ⟨4, L, b, t⟩ ⟨7, oa, ob⟩ = ((⟨4, L, b, t⟩ : St), hasI L oa) := by simp [rstoreS, ha]
        rw [hr]
        exact r_store_get n1 n2 hn3 HX HFi hi
      · have hr : rstoreS ⟨4, L, b, t⟩ ⟨6, oa, ob⟩ = ((⟨4, remR L oa, b, t⟩ : St), hasI L oa) := by simp [rstoreS, ha]
        rw [hr]
        exact r_store_del n1 n2 hn3 HX HFi hi HR
      · by_cases hf : findZ L oa < 0 ∧ L.length = 128
        · have hr : rstoreS ⟨4, L, b, t⟩ ⟨5, oa, ob⟩ = ((⟨4, L, b, t⟩ : St), -2) := by simp [rstoreS, ha, hf]
          rw [hr]
          exact r_store_full n1 n2 hn3 HX HFi hi (by rcases hi with ⟨h, _⟩ | ⟨j, _, _, h, _⟩ <;> omega) (by omega)
        · have hr : rstoreS ⟨4, L, b, t⟩ ⟨5, oa, ob⟩ = ((⟨4, putR L oa (cutI ob), b, t⟩ : St), hasI L oa) := by
            unfold rstoreS
            rw [if_neg (by simp), if_neg ha, if_neg (by simp), if_pos rfl, if_neg hf]
          rw [hr]
          exact r_store_put n1 n2 hn3 HX HFi hi (fun h1 h2 => hf ⟨by omega, by omega⟩) HC HW
  · have hr : rstoreS ⟨4, L, b, t⟩ ⟨co, oa, ob⟩ = ((⟨4, L, b, t⟩ : St), 0) := by simp [rstoreS, hc]
    rw [hr]
    have g7 : (co == 7) = false := by simp; omega
    have g6 : (co == 6) = false := by simp; omega
    have g5 : (co == 5) = false := by simp; omega
    have u7 : (co != 7) = true := by simp; omega
    have u6 : (co != 6) = true := by simp; omega
    have u5 : (co != 5) = true := by simp; omega
    clear hr hx hi HFi HR HW HC p1 p2 p3 hc hn
    go_enter Try.func45, Try.ntmps45
    go_wp2_with fail
    refine bodyPost_ret (v := .tuple #[.agg #[.int .i64 4, .slice a n c, .bool b, .int .i64 t], .int .i64 0]) ?_ rfl ?_
    · simp [results, Try.results45, go_sem]
    · exact StepP.weak (stepp_same HX.out (below3 w _ _ _))
end Go.Proofs.Ytjfenjnnpikkdaa
