/-
  Package slices at []int: Clone, Equal, ContainsFunc (by objs.May's closure), Delete, Insert.
-/
import Derived.Test.YtaoagaokocnehaaProg
import Derived.Test.YtaoagaokocnehaaO
import Derived.StillTailTactics
import Derived.WalkSpells
namespace Go.Proofs.Ytaoagaokocnehaa
set_option linter.unusedVariables false
set_option linter.unusedSimpArgs false
open Go.RowKit

theorem infoInt : (Try.prog.info? 3).map (fun i => (i.zero, i.size, i.bytes)) = some (some (.int .i64 0), 1, 8) := by kernel_rfl

/-- What Clone leaves: a row of its own. -/
def CloneP (w : World) (xs : List Int) (e : Ending) (w' : World) : Prop :=
  ∃ v', e = .returned v' ∧ Own w' 3 1 v' xs.length (ints xs) ∧ (∀ k, v'.ownBlock = some k → w.heap.size ≤ k) ∧ Below w.heap.size w w'

set_option maxHeartbeats 800000 in
theorem sl_clone {w : World} {v : Value} {xs : List Int} (h : Rd w v xs) (hl : xs.length ≤ 17592186044416) :
    Calls Try.prog 42 #[v] w (CloneP w xs) := by
  obtain ⟨i0, hi, hz0, hz1, hz2⟩ := info_parts infoInt
  obtain ⟨a, c, rfl, hnews⟩ := h.news
  have hq : ∀ (w : World) (a : Option Addr) (n c n' c' : Nat), (binOp .eql 22 (.slice a n c) (.slice none n' c')).run Try.prog w = .ok (.bool a.isNone) w := fun w a n c n' c' => Lib.run_eql_slice_nil w _ _ a n c n' c' Try.underlying22
  cases a with
  | none =>
    have hx : xs = [] := by
      obtain ⟨a, c, e, _, _, h3⟩ := h
      by_cases h0 : 0 < xs.length
      · obtain ⟨b, o, e2, _⟩ := h3 h0
        rw [e2] at e
        simp at e
      · exact List.eq_nil_of_length_eq_zero (by omega)
    subst hx
    have fin : CloneP w [] (.returned (.slice none 0 0)) w := ⟨_, rfl, World.ownsRow_nil .., by simp [Value.ownBlock], Below.refl _ _⟩
    have HF := Lib.hid fin
    clear fin hnews h
    go_enter Try.func42, Try.ntmps42
    go_wp2
    go_ret
    exact HF.out
  | some ad =>
    have hn := hnews ad rfl
    have fin : ∀ v' w1, Own w1 3 1 v' (0 + xs.length) ([] ++ ints xs) → (w.alloc (.cells #[] 3)).grownBy w1 (some w.heap.size) → (v'.ownBlock = some w.heap.size ∨ v'.ownBlock = some (w.heap.size + 1)) → CloneP w xs (.returned v') w1 := by
      intro v' w1 hown hg hat
      refine ⟨v', rfl, by simpa using hown, ?_, ((Below.refl _ w).alloc (Nat.le_refl _) _).grown hg (by simp) (by rintro k ⟨⟩; exact Nat.le_refl _)⟩
      intro k hk
      rcases hat with e | e <;> rw [e] at hk <;> injection hk <;> omega
    have HF := Lib.hid fin
    have HN := Lib.hid hn
    have HO : Own (w.alloc (.cells #[] 3)) 3 1 (.slice (some ⟨w.heap.size, 0, none⟩) 0 0) 0 [] := by
      have := own_lit w 3 [] (by simp)
      simpa using this
    have HW := Lib.hid HO
    have HC : Hid (∀ j u, (ints xs)[j]? = some u → (w.alloc (.cells #[] 3)).cell? (ad.add j) = some u) := fun j u hu => Lib.cell?_alloc_some _ (hn j u hu)
    clear fin hn hnews h HO
    go_enter Try.func42, Try.ntmps42
    go_wp2_with (at_builtin; refine wpList_append_own_at _ rfl _ _ 22 rfl 0 3 i0 (.int .i64 0) 1 8 Try.underlying22 hi hz0 hz1 hz2 rfl (by decide) (.slice (some ⟨w.heap.size, 0, none⟩) 0 0) _ _ rfl HW.out ad xs.length c (ints xs) rfl (by simp [ints]) HC.out (ints_one xs) (by simp only [maxLen]; omega) (by omega) (Nat.zero_le _) ?_; intro v' w1 hown hgrow hnil hat)
    go_ret
    exact HF.out _ _ hown hgrow (by simpa [Value.ownBlock] using hat)

theorem getD_ne {xs ys : List Int} {k : Nat} (h : xs.getD k 0 ≠ ys.getD k 0) : xs ≠ ys := fun e => h (by rw [e])
theorem list_eq_of {xs ys : List Int} (hl : xs.length = ys.length) (h : ∀ k, k < xs.length → xs.getD k 0 = ys.getD k 0) : xs = ys := by
  apply List.ext_getElem hl
  intro i h1 h2
  have := h i h1
  simpa [List.getD_eq_getElem?_getD, List.getElem?_eq_getElem h1, List.getElem?_eq_getElem h2] using this

/-- The function returns b; what was there stays. -/
def Tells (w : World) (b : Bool) (e : Ending) (w' : World) : Prop := e = .returned (.bool b) ∧ Below w.heap.size w w'
/-- The function returns an int; what was there stays. -/
def TellsI (w : World) (n : Int) (e : Ending) (w' : World) : Prop := e = .returned (.int .i64 n) ∧ Below w.heap.size w w'

set_option maxHeartbeats 1600000 in
theorem sl_equal {w : World} {v u : Value} {xs ys : List Int} (hx : Rd w v xs) (hy : Rd w u ys) :
    Calls Try.prog 39 #[v, u] w (Tells w (decide (xs = ys))) := by
  obtain ⟨n, a, c, f, rfl, hn, hnc, hcm, hf, hv⟩ := hx.view
  obtain ⟨m, a2, c2, g, rfl, hm, hmc, hcm2, hg, hv2⟩ := hy.view
  clear hx hy
  by_cases hnm : n = m
  · subst hnm
    have hne : ((n : Int) != n) = false := by simp
    have HV := Lib.hid hv
    have HV2 := Lib.hid hv2
    have HN := Lib.hid hn
    have HM := Lib.hid hm
    have HF := Lib.hid hf
    have HG := Lib.hid hg
    clear hv hv2 hn hm hf hg
    go_enter Try.func39, Try.ntmps39
    go_wp2_with fail
    go_loopw [13] (fun i wr => ∃ k : Nat, k ≤ n ∧ i = .int .i64 k ∧ (∃ q, wr = w.drewN q) ∧ ∀ j, j < k → f j = g j) (fun i _ => n - (intOf i).toNat)
    case atStart => exact ⟨0, Nat.zero_le _, rfl, ⟨0, rfl⟩, by intro j hj; omega⟩
    case round =>
      obtain ⟨k, hk, rfl, ⟨q, rfl⟩, hfg⟩ := hrel
      have HE := Lib.hid hfg
      clear hfg
      by_cases hlt : k < n
      · obtain ⟨b, o, rfl, hb, hc⟩ := HV.out (by omega)
        obtain ⟨b2, o2, rfl, hb2, hc2⟩ := HV2.out (by omega)
        have h1 := hc k hlt
        have h2 := hc2 k hlt
        clear hc hc2
        have HK : Hid (f k = f k ∧ g k = g k) := ⟨rfl, rfl⟩
        obtain ⟨fk, hfk⟩ : ∃ fk, fk = f k := ⟨_, rfl⟩
        obtain ⟨gk, hgk⟩ : ∃ gk, gk = g k := ⟨_, rfl⟩
        rw [← hfk] at h1
        rw [← hgk] at h2
        have HFK := Lib.hid hfk
        have HGK := Lib.hid hgk
        clear hfk hgk HK
        by_cases he : fk = gk
        · subst he
          have hnb : (fk != fk) = false := by simp
          go_wp2_with fail
          go_quiet (fail)
          go_wp2_with fail
          go_roundw
          case rel => exact ⟨k + 1, by omega, by go_num, ⟨_, rfl⟩, fun j hj => by
            rcases Nat.lt_or_ge j k with h | h
            · exact HE.out j h
            · obtain rfl : j = k := by omega
              rw [← HFK.out, ← HGK.out]⟩
          case measure => simp [intOf]; omega
        · have hnb : (fk != gk) = true := by simpa using he
          have fin : ∀ q r, Tells w (decide (xs = ys)) (.returned (.bool false)) ((w.drewN q).drewN r) := by
            intro q r
            have : xs ≠ ys := by
              refine getD_ne (k := k) ?_
              rw [← HF.out, ← HG.out, ← HFK.out, ← HGK.out]
              exact he
            refine ⟨by rw [decide_eq_false this], ?_⟩
            exact ⟨rfl, rfl, rfl, Nat.le_refl _, fun _ _ => rfl⟩
          have HT := Lib.hid fin
          clear fin he
          go_wp2_with fail
          go_quiet (fail)
          go_wp2_with fail
          go_ret
          exact HT.out _ _
      · obtain rfl : k = n := by omega
        have fin : Tells w (decide (xs = ys)) (.returned (.bool true)) (w.drewN q) := by
          have : xs = ys := list_eq_of (by rw [← HN.out, ← HM.out]) (fun j hj => by rw [← HF.out, ← HG.out]; exact HE.out j (by rw [HN.out]; exact hj))
          exact ⟨by rw [decide_eq_true this], ⟨rfl, rfl, rfl, Nat.le_refl _, fun _ _ => rfl⟩⟩
        have HT := Lib.hid fin
        clear fin
        go_wp2_with fail
        go_ret
        exact HT.out
  · have hne : ((n : Int) != m) = true := by simp; omega
    have fin : Tells w (decide (xs = ys)) (.returned (.bool false)) w := by
      have : xs ≠ ys := fun e => hnm (by rw [hn, hm, e])
      exact ⟨by rw [decide_eq_false this], Below.refl _ _⟩
    have HT := Lib.hid fin
    clear fin hnm hv hv2 hf hg hn hm
    go_enter Try.func39, Try.ntmps39
    go_wp2_with fail
    go_ret
    exact HT.out

theorem ret_i64 {a b : Int} (h : a = b) : Ending.returned (.int .i64 a) = .returned (.int .i64 b) := by rw [h]
theorem o_cut (n : Int) (w : World) : Calls Try.prog 37 #[.int .i64 n] w fun e w' => e = .returned (.int .i64 (cutI n)) ∧ w' = w := by
  by_cases h1 : n < -1099511627776
  · have hc : cutI n = -1099511627776 := by unfold cutI; rw [if_pos h1]
    rw [hc]
    clear hc
    have h2 : n ≤ 1099511627776 := by omega
    go_enter Try.func37, Try.ntmps37
    go_wp2
    all_goals first | (exfalso; omega) | (go_ret; exact ⟨rfl, rfl⟩) | (go_ret; exact ⟨ret_i64 (by omega), rfl⟩)
  · by_cases h2 : 1099511627776 < n
    · have hc : cutI n = 1099511627776 := by unfold cutI; rw [if_neg h1, if_pos h2]
      rw [hc]
      clear hc
      go_enter Try.func37, Try.ntmps37
      go_wp2
      all_goals first | (exfalso; omega) | (go_ret; exact ⟨rfl, rfl⟩) | (go_ret; exact ⟨ret_i64 (by omega), rfl⟩)
    · have hc : cutI n = n := by unfold cutI; rw [if_neg h1, if_neg h2]
      rw [hc]
      clear hc
      go_enter Try.func37, Try.ntmps37
      go_wp2
      all_goals first | (exfalso; omega) | (go_ret; exact ⟨rfl, rfl⟩) | (go_ret; exact ⟨ret_i64 (by omega), rfl⟩)
theorem o_may1 (n : Int) (w : World) : Calls Try.prog 36 #[.int .i64 n] w fun e w' => e = .returned (.bool (n != cutI n)) ∧ w' = w := by
  have HC := Lib.hid (o_cut n w)
  go_enter Try.func36, Try.ntmps36
  go_wp2_with fail
  refine HC.out.mono ?_
  rintro e w' ⟨rfl, rfl⟩
  go_wp2_with fail
  go_ret
  exact ⟨rfl, rfl⟩
theorem call_may1 (args : Array Value) (W : World) : (callFunc 36 args).run Try.prog W = .ok (.enter 36 args) W := by
  go_simp

set_option maxHeartbeats 1600000 in
/-- The first number outside its bounds; -1: none. -/
theorem sl_index {w : World} {v : Value} {xs : List Int} (hx : Rd w v xs) :
    Calls Try.prog 52 #[v, .func (Fn.func 36) #[] #[]] w fun e w' => ∃ r : Int, e = .returned (.int .i64 r) ∧ decide (0 ≤ r) = xs.any (fun n => n != cutI n) ∧ w' = w := by
  obtain ⟨n, a, c, f, rfl, hn, hnc, hcm, hf, hv⟩ := hx.view
  clear hx
  have hcall := call_may1
  have HV := Lib.hid hv
  have HN := Lib.hid hn
  have HF := Lib.hid hf
  clear hv hn hf
  go_enter Try.func52, Try.ntmps52
  go_wp2_with fail
  go_loop [8] (fun i => ∃ k : Nat, k ≤ n ∧ i = .int .i64 k ∧ ∀ j, j < k → f j = cutI (f j)) (fun i => n - (intOf i).toNat)
  case atStart => exact ⟨0, Nat.zero_le _, rfl, by intro j hj; omega⟩
  case round =>
    obtain ⟨k, hk, rfl, hfg⟩ := hrel
    have HE := Lib.hid hfg
    clear hfg
    by_cases hlt : k < n
    · obtain ⟨b, o, rfl, hb, hc⟩ := HV.out (by omega)
      have h1 := hc k hlt
      clear hc
      obtain ⟨fk, hfk⟩ : ∃ fk, fk = f k := ⟨_, rfl⟩
      rw [← hfk] at h1
      have HFK := Lib.hid hfk
      clear hfk
      by_cases he : fk = cutI fk
      · have hc := o_may1 fk w
        rw [show (fk != cutI fk) = false by simpa using he] at hc
        have HC := Lib.hid hc
        have HEQ := Lib.hid he
        clear hc he
        go_wp2_with fail
        refine HC.out.mono ?_
        rintro e w' ⟨rfl, rfl⟩
        go_wp2_with fail
        go_round
        case rel => exact ⟨k + 1, by omega, by go_num, fun j hj => by
            rcases Nat.lt_or_ge j k with h | h
            · exact HE.out j h
            · obtain rfl : j = k := by omega
              rw [← HFK.out]; exact HEQ.out⟩
        case measure => simp [intOf]; omega
      · have hc := o_may1 fk w
        rw [show (fk != cutI fk) = true by simpa using he] at hc
        have HC := Lib.hid hc
        have fin : decide ((0 : Int) ≤ k) = xs.any (fun n => n != cutI n) := by
          have : xs.any (fun n => n != cutI n) = true := by
            rw [List.any_eq_true]
            have hkl : k < xs.length := by rw [← HN.out]; exact hlt
            refine ⟨xs.getD k 0, by simp [List.getD_eq_getElem?_getD, List.getElem?_eq_getElem hkl], ?_⟩
            rw [← HF.out, ← HFK.out]
            simpa using he
          rw [this]
          simp
        have HT := Lib.hid fin
        clear hc he fin
        go_wp2_with fail
        refine HC.out.mono ?_
        rintro e w' ⟨rfl, rfl⟩
        go_wp2_with fail
        go_ret
        exact ⟨k, rfl, HT.out, rfl⟩
    · obtain rfl : k = n := by omega
      have fin : decide ((0 : Int) ≤ -1) = xs.any (fun n => n != cutI n) := by
        have : xs.any (fun n => n != cutI n) = false := by
          rw [List.any_eq_false]
          intro x hx
          obtain ⟨i, hi, rfl⟩ := List.getElem_of_mem hx
          have := HE.out i (by rw [HN.out]; exact hi)
          rw [HF.out] at this
          simp only [List.getD_eq_getElem?_getD, List.getElem?_eq_getElem hi, Option.getD_some] at this
          simpa using this
        rw [this]
        decide
      have HT := Lib.hid fin
      clear fin
      go_wp2_with fail
      go_ret
      exact ⟨-1, rfl, HT.out, rfl⟩
theorem sl_contains {w : World} {v : Value} {xs : List Int} (hx : Rd w v xs) :
    Calls Try.prog 35 #[v, .func (Fn.func 36) #[] #[]] w fun e w' => e = .returned (.bool (xs.any (fun n => n != cutI n))) ∧ w' = w := by
  have HC := Lib.hid (sl_index hx)
  clear hx
  go_enter Try.func35, Try.ntmps35
  go_wp2_with fail
  refine HC.out.mono ?_
  rintro e w' ⟨r, rfl, hr, rfl⟩
  have HR := Lib.hid hr
  clear hr
  go_wp2_with fail
  go_ret
  exact ⟨by rw [← HR.out]; rfl, rfl⟩
end Go.Proofs.Ytaoagaokocnehaa
