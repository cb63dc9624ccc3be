/-
  NetCounts.
-/
import Derived.Test.YtjbmfmhibmnaiaaNt9
namespace Go.Proofs.Ytjbmfmhibmnaiaa
set_option linter.unusedVariables false
set_option maxRecDepth 100000
set_option linter.unusedSimpArgs false
open Go.RowKit

/-- A net as a law of its layer goes on with it. -/
structure NetL (w wr : World) (T : TypeId) (b : Nat) (vl : Value) (L : List (Msg × Value)) : Prop where
  rep : NRep wr T b vl L
  bel : Below w.heap.size w wr
  new : ∀ k, fpN b vl L k → w.heap.size ≤ k
  len : ∀ x ∈ L, x.1.b.length ≤ 300
theorem NetL.below {w wr w' : World} {T : TypeId} {b : Nat} {vl : Value} {L : List (Msg × Value)} (h : NetL w wr T b vl L) (hb : Below wr.heap.size wr w') : NetL w w' T b vl L := ⟨h.rep.below hb, h.bel.trans (hb.mono h.bel.size), h.new, h.len⟩
theorem NetL.post {w wr w' : World} {T : TypeId} {b : Nat} {vl : Value} {L L' : List (Msg × Value)} (h : NetL w wr T b vl L) (hp : NPost wr T b vl L L' w') (hl : ∀ x ∈ L', x.1.b.length ≤ 300) : ∃ vl', NetL w w' T b vl' L' := by
  obtain ⟨vl', h1, h2, h3, -, -⟩ := hp.bel h.bel h.new
  exact ⟨vl', h1, h2, h3, hl⟩
theorem NetL.l44 {w wr : World} {T : TypeId} {b : Nat} {vl : Value} {L : List (Msg × Value)} (h : NetL w wr T b vl L) : ∀ x ∈ L, x.1.b.length ≤ 17592186044416 := fun x hx => by have := h.len x hx; omega
theorem len_app {L : List (Msg × Value)} {m : Msg} {v : Value} (h : ∀ x ∈ L, x.1.b.length ≤ 300) (hm : m.b.length ≤ 300) : ∀ x ∈ L ++ [(m, v)], x.1.b.length ≤ 300 := fun x hx => by
  rcases List.mem_append.1 hx with hx | hx
  · exact h x hx
  · rw [List.mem_singleton.1 hx]; exact hm
theorem takeN_sub {α : Type} {L : List α} {i : Int} : ∀ x ∈ takeN L i, x ∈ L := fun x hx => by
  unfold takeN at hx
  split at hx
  · rcases List.mem_append.1 hx with hx | hx
    · exact List.mem_of_mem_take hx
    · exact List.mem_of_mem_drop hx
  · exact hx
theorem takeN_len {α : Type} {L : List α} {i : Int} (h : 0 ≤ i ∧ i < L.length) : ((takeN L i).length : Int) = (L.length : Int) - 1 := by
  obtain ⟨q, rfl⟩ := Int.eq_ofNat_of_zero_le h.1
  unfold takeN
  rw [if_pos h]
  simp
  omega
theorem takeN_no {α : Type} {L : List α} {i : Int} (h : ¬ (0 ≤ i ∧ i < L.length)) : takeN L i = L := by unfold takeN; rw [if_neg h]
theorem atN_in {L : List (Msg × Value)} {i : Int} (h : 0 ≤ i ∧ i < L.length) (hl : ∀ x ∈ L, x.1.b.length ≤ 300) : ∃ m : Msg, atN (msgs L) i = (m, true) ∧ m.b.length ≤ 300 ∧ m ∈ msgs L := by
  obtain ⟨q, rfl⟩ := Int.eq_ofNat_of_zero_le h.1
  have hq : q < L.length := by omega
  have hm : L.getD q (noMsg, .slice none 0 0) ∈ L := by
    rw [List.getD_eq_getElem?_getD, List.getElem?_eq_getElem hq]; exact List.getElem_mem _
  refine ⟨(L.getD q (noMsg, .slice none 0 0)).1, ?_, hl _ hm, List.mem_map_of_mem hm⟩
  unfold atN
  rw [if_pos (by simpa using hq)]
  show ((msgs L).getD q noMsg, true) = _
  rw [msgs_getD L hq]
theorem atN_out {L : List (Msg × Value)} {i : Int} (h : ¬ (0 ≤ i ∧ i < L.length)) : atN (msgs L) i = (noMsg, false) := by unfold atN; rw [if_neg (by simpa using h)]

set_option maxRecDepth 100000 in
set_option maxHeartbeats 12800000 in
theorem n_counts {w : World} {a : Option Addr} {len cap : Nat} {f : Nat → OpN} {vb : Nat → Value} (h : IsOpsN w a len f vb) (hl : len ≤ 9223372036854775807) :
    Calls Try.prog 8 #[.slice a len cap] w fun e w' => e = .returned (.bool true) ∧ Below w.heap.size w w' := by
  have HO := Lib.hid h
  clear h
  go_enter Try.func8, Try.ntmps8
  go_wp2_with fail
  refine (n_awake w).mono ?_
  rintro e w1 ⟨rfl, hB1⟩
  go_wp2_with fail
  refine (n_few (HO.out.below hB1) hl).mono ?_
  rintro e w2 ⟨r, rfl, hr1, hr2, hB2⟩
  have hB2' := hB1.trans (hB2.mono hB1.size)
  clear hB1 hB2 hr2
  go_wp2_with fail
  refine (n_new w2).mono ?_
  rintro e w3 ⟨b, rfl, hb, hN3, hB3⟩
  have hn3 : ∀ k, fpN b (.slice none 0 0) [] k → w.heap.size ≤ k := by
    rintro k (rfl | hk | ⟨x, hx, _⟩)
    · exact Nat.le_trans hB2'.size hb
    · simp [Value.ownBlock] at hk
    · simp at hx
  have hL3 : NetL w w3 62 b (.slice none 0 0) [] := ⟨hN3, hB2'.trans (hB3.mono hB2'.size), hn3, by simp⟩
  clear hN3 hn3 hB3 hB2' hb
  cases r with
  | false =>
    go_wp2_with fail
    go_ret
    exact ⟨rfl, hL3.bel⟩
  | true =>
    have hF := hr1 rfl
    have HF := Lib.hid hF
    have h100 := hF.1
    clear hr1 hF
    go_wp2_with fail
    go_loopw [6, 7] (fun kv iv wr => ∃ (i : Nat) (vl : Value) (L : List (Msg × Value)), i ≤ len ∧ iv = .int .i64 i ∧ kv = .int .i64 L.length ∧ L.length ≤ i ∧ NetL w wr 62 b vl L) (fun _ iv _ => len - (intOf iv).toNat)
    case atStart => exact ⟨0, _, _, by omega, rfl, rfl, by simp, hL3⟩
    case round =>
      obtain ⟨i, vl, L, hi, rfl, rfl, hLi, hNL⟩ := hrel
      clear hL3
      by_cases hlt : i < len
      · have d0 : decide ((i : Int) < len) = true := decide_eq_true (by omega)
        have i1 : (0 : Int) ≤ (i : Int) := by omega
        have i2 : (i : Int) < (len : Int) := by omega
        have i64k : IntKind.i64.wrap ((i : Int) + 1) = (i : Int) + 1 := IntWalk.i64_in _ (by omega)
        have i64p : IntKind.i64.wrap ((L.length : Int) + 1) = (L.length : Int) + 1 := IntWalk.i64_in _ (by omega)
        have i64m : IntKind.i64.wrap ((L.length : Int) - 1) = (L.length : Int) - 1 := IntWalk.i64_in _ (by omega)
        obtain ⟨bb, oo, rfl, hlb, hc⟩ := HO.out.below hNL.bel (by omega)
        obtain ⟨c0, c1, c2, c3, c4, c5, c6, hrb⟩ := hc i hlt
        obtain ⟨av, cv, ev, -⟩ := id hrb
        rw [ev] at c6 hrb
        have hmb := HF.out.2 i hlt
        generalize (f i).kind = kd at *
        generalize (f i).i = ix at *
        generalize (f i).m = m at *
        have HNL := Lib.hid hNL
        have HRB := Lib.hid hrb
        have hL30 : L.length < 1073741824 := by omega
        clear hc ev hNL hrb
        rcases (by omega : kd = 0 ∨ kd = 1 ∨ kd = 2 ∨ kd = 3 ∨ kd = 4 ∨ (kd ≠ 0 ∧ kd ≠ 1 ∧ kd ≠ 2 ∧ kd ≠ 3 ∧ kd ≠ 4)) with hk | hk | hk | hk | hk | ⟨hk0, hk1, hk2, hk3, hk4⟩
        · skip
          have e0 : (kd == 0) = true := by simp [hk]
          have e1 : (kd == 1) = false := by rw [hk]; decide
          have e2 : (kd == 2) = false := by rw [hk]; decide
          have e3 : (kd == 3) = false := by rw [hk]; decide
          have e4 : (kd == 4) = false := by rw [hk]; decide
          rcases (by omega : (0 ≤ ix ∧ ix < (L.length : Int)) ∨ (0 ≤ ix ∧ (L.length : Int) ≤ ix) ∨ ix < 0) with hin | h0 | h0
          · skip
            have d1 : decide (0 ≤ ix) = true := decide_eq_true hin.1
            have d2 : decide (ix < (L.length : Int)) = true := decide_eq_true hin.2
            have HS := Lib.hid (n_send HNL.out.rep m HRB.out (by omega) hL30)
            go_wp2_with (first | (go_at_call 31; refine HLEN.out.mono ?_; rintro e w6 ⟨rfl, rfl⟩) | (go_at_call 21; refine HS.out.mono ?_; rintro e w5 ⟨rfl, v5, -, hP5⟩; obtain ⟨vl5, hN5⟩ := HNL.out.post hP5 (len_app HNL.out.len hmb); have hk5 : (((L ++ [(m, v5)]).length : Nat) : Int) = (L.length : Int) + 1 := (by simp); have HK5 := Lib.hid hk5; clear hk5; have hlen := n_len hN5.rep; rw [HK5.out] at hlen; have HLEN := Lib.hid hlen; have HN5 := Lib.hid hN5; clear hlen hN5))
            go_roundw
            case rel => exact ⟨i + 1, _, _, by omega, by go_num, by rw [HK5.out], by simp; omega, HN5.out⟩
            case measure => simp [intOf]; omega
          · skip
            have hin : ¬ (0 ≤ ix ∧ ix < (L.length : Int)) := by omega
            have d1 : decide (0 ≤ ix) = true := decide_eq_true h0.1
            have d2 : decide (ix < (L.length : Int)) = false := decide_eq_false (by omega)
            have HS := Lib.hid (n_send HNL.out.rep m HRB.out (by omega) hL30)
            go_wp2_with (first | (go_at_call 31; refine HLEN.out.mono ?_; rintro e w6 ⟨rfl, rfl⟩) | (go_at_call 21; refine HS.out.mono ?_; rintro e w5 ⟨rfl, v5, -, hP5⟩; obtain ⟨vl5, hN5⟩ := HNL.out.post hP5 (len_app HNL.out.len hmb); have hk5 : (((L ++ [(m, v5)]).length : Nat) : Int) = (L.length : Int) + 1 := (by simp); have HK5 := Lib.hid hk5; clear hk5; have hlen := n_len hN5.rep; rw [HK5.out] at hlen; have HLEN := Lib.hid hlen; have HN5 := Lib.hid hN5; clear hlen hN5))
            go_roundw
            case rel => exact ⟨i + 1, _, _, by omega, by go_num, by rw [HK5.out], by simp; omega, HN5.out⟩
            case measure => simp [intOf]; omega
          · skip
            have hin : ¬ (0 ≤ ix ∧ ix < (L.length : Int)) := by omega
            have d1 : decide (0 ≤ ix) = false := decide_eq_false (by omega)
            have HS := Lib.hid (n_send HNL.out.rep m HRB.out (by omega) hL30)
            go_wp2_with (first | (go_at_call 31; refine HLEN.out.mono ?_; rintro e w6 ⟨rfl, rfl⟩) | (go_at_call 21; refine HS.out.mono ?_; rintro e w5 ⟨rfl, v5, -, hP5⟩; obtain ⟨vl5, hN5⟩ := HNL.out.post hP5 (len_app HNL.out.len hmb); have hk5 : (((L ++ [(m, v5)]).length : Nat) : Int) = (L.length : Int) + 1 := (by simp); have HK5 := Lib.hid hk5; clear hk5; have hlen := n_len hN5.rep; rw [HK5.out] at hlen; have HLEN := Lib.hid hlen; have HN5 := Lib.hid hN5; clear hlen hN5))
            go_roundw
            case rel => exact ⟨i + 1, _, _, by omega, by go_num, by rw [HK5.out], by simp; omega, HN5.out⟩
            case measure => simp [intOf]; omega
        · skip
          have e0 : (kd == 0) = false := by rw [hk]; decide
          have e1 : (kd == 1) = true := by simp [hk]
          have e2 : (kd == 2) = false := by rw [hk]; decide
          have e3 : (kd == 3) = false := by rw [hk]; decide
          have e4 : (kd == 4) = false := by rw [hk]; decide
          rcases (by omega : (0 ≤ ix ∧ ix < (L.length : Int)) ∨ (0 ≤ ix ∧ (L.length : Int) ≤ ix) ∨ ix < 0) with hin | h0 | h0
          · skip
            have d1 : decide (0 ≤ ix) = true := decide_eq_true hin.1
            have d2 : decide (ix < (L.length : Int)) = true := decide_eq_true hin.2
            obtain ⟨mm, hat, -, -⟩ := atN_in hin HNL.out.len
            have hA := n_at HNL.out.rep ix HNL.out.l44 hL30
            rw [hat] at hA
            have HA := Lib.hid hA
            clear hA hat
            go_wp2_with (first | (go_at_call 31; refine HLEN.out.mono ?_; rintro e w6 ⟨rfl, rfl⟩) | (go_at_call 23; refine HA.out.mono ?_; rintro e w5 ⟨v5, rfl, -, -, hb5⟩; have hN5 := HNL.out.below hb5; have HLEN := Lib.hid (n_len hN5.rep); have HN5 := Lib.hid hN5; clear hN5 hb5))
            go_roundw
            case rel => exact ⟨i + 1, _, _, by omega, by go_num, rfl, by omega, HN5.out⟩
            case measure => simp [intOf]; omega
          · skip
            have hin : ¬ (0 ≤ ix ∧ ix < (L.length : Int)) := by omega
            have d1 : decide (0 ≤ ix) = true := decide_eq_true h0.1
            have d2 : decide (ix < (L.length : Int)) = false := decide_eq_false (by omega)
            have hat := atN_out hin
            have hA := n_at HNL.out.rep ix HNL.out.l44 hL30
            rw [hat] at hA
            have HA := Lib.hid hA
            clear hA hat
            go_wp2_with (first | (go_at_call 31; refine HLEN.out.mono ?_; rintro e w6 ⟨rfl, rfl⟩) | (go_at_call 23; refine HA.out.mono ?_; rintro e w5 ⟨v5, rfl, -, -, hb5⟩; have hN5 := HNL.out.below hb5; have HLEN := Lib.hid (n_len hN5.rep); have HN5 := Lib.hid hN5; clear hN5 hb5))
            go_roundw
            case rel => exact ⟨i + 1, _, _, by omega, by go_num, rfl, by omega, HN5.out⟩
            case measure => simp [intOf]; omega
          · skip
            have hin : ¬ (0 ≤ ix ∧ ix < (L.length : Int)) := by omega
            have d1 : decide (0 ≤ ix) = false := decide_eq_false (by omega)
            have hat := atN_out hin
            have hA := n_at HNL.out.rep ix HNL.out.l44 hL30
            rw [hat] at hA
            have HA := Lib.hid hA
            clear hA hat
            go_wp2_with (first | (go_at_call 31; refine HLEN.out.mono ?_; rintro e w6 ⟨rfl, rfl⟩) | (go_at_call 23; refine HA.out.mono ?_; rintro e w5 ⟨v5, rfl, -, -, hb5⟩; have hN5 := HNL.out.below hb5; have HLEN := Lib.hid (n_len hN5.rep); have HN5 := Lib.hid hN5; clear hN5 hb5))
            go_roundw
            case rel => exact ⟨i + 1, _, _, by omega, by go_num, rfl, by omega, HN5.out⟩
            case measure => simp [intOf]; omega
        · skip
          have e0 : (kd == 0) = false := by rw [hk]; decide
          have e1 : (kd == 1) = false := by rw [hk]; decide
          have e2 : (kd == 2) = true := by simp [hk]
          have e3 : (kd == 3) = false := by rw [hk]; decide
          have e4 : (kd == 4) = false := by rw [hk]; decide
          rcases (by omega : (0 ≤ ix ∧ ix < (L.length : Int)) ∨ (0 ≤ ix ∧ (L.length : Int) ≤ ix) ∨ ix < 0) with hin | h0 | h0
          · skip
            have d1 : decide (0 ≤ ix) = true := decide_eq_true hin.1
            have d2 : decide (ix < (L.length : Int)) = true := decide_eq_true hin.2
            obtain ⟨mm, hat, -, -⟩ := atN_in hin HNL.out.len
            have hA := n_take HNL.out.rep ix HNL.out.l44 hL30
            unfold TakeP at hA
            rw [hat] at hA
            have HA := Lib.hid hA
            have HK5 := Lib.hid (takeN_len hin)
            clear hA hat
            go_wp2_with (first | (go_at_call 31; refine HLEN.out.mono ?_; rintro e w6 ⟨rfl, rfl⟩) | (go_at_call 26; refine HA.out.mono ?_; rintro e w5 ⟨v5, rfl, -, hP5⟩; obtain ⟨vl5, hN5⟩ := HNL.out.post hP5 (fun x hx => HNL.out.len x (takeN_sub x hx)); have hk5 : (((takeN L ix).length : Nat) : Int) = (L.length : Int) - 1 := HK5.out; have hlen := n_len hN5.rep; rw [hk5] at hlen; have HLEN := Lib.hid hlen; have HN5 := Lib.hid hN5; clear hlen hN5; clear hk5))
            have hk6 : (((takeN L ix).length : Nat) : Int) = (L.length : Int) - 1 := HK5.out
            go_roundw
            case rel => exact ⟨i + 1, _, _, by omega, by go_num, by rw [hk6], by omega, HN5.out⟩
            case measure => simp [intOf]; omega
          · skip
            have hin : ¬ (0 ≤ ix ∧ ix < (L.length : Int)) := by omega
            have d1 : decide (0 ≤ ix) = true := decide_eq_true h0.1
            have d2 : decide (ix < (L.length : Int)) = false := decide_eq_false (by omega)
            have hat := atN_out hin
            have hA := n_take HNL.out.rep ix HNL.out.l44 hL30
            unfold TakeP at hA
            rw [hat] at hA
            have HA := Lib.hid hA
            have HK5 := Lib.hid (congrArg (fun l : List (Msg × Value) => (l.length : Int)) (takeN_no hin))
            clear hA hat
            go_wp2_with (first | (go_at_call 31; refine HLEN.out.mono ?_; rintro e w6 ⟨rfl, rfl⟩) | (go_at_call 26; refine HA.out.mono ?_; rintro e w5 ⟨v5, rfl, -, hP5⟩; obtain ⟨vl5, hN5⟩ := HNL.out.post hP5 (fun x hx => HNL.out.len x (takeN_sub x hx)); have hk5 : (((takeN L ix).length : Nat) : Int) = (L.length : Int) := HK5.out; have hlen := n_len hN5.rep; rw [hk5] at hlen; have HLEN := Lib.hid hlen; have HN5 := Lib.hid hN5; clear hlen hN5; clear hk5))
            have hk6 : (((takeN L ix).length : Nat) : Int) = (L.length : Int) := HK5.out
            go_roundw
            case rel => exact ⟨i + 1, _, _, by omega, by go_num, by rw [hk6], by omega, HN5.out⟩
            case measure => simp [intOf]; omega
          · skip
            have hin : ¬ (0 ≤ ix ∧ ix < (L.length : Int)) := by omega
            have d1 : decide (0 ≤ ix) = false := decide_eq_false (by omega)
            have hat := atN_out hin
            have hA := n_take HNL.out.rep ix HNL.out.l44 hL30
            unfold TakeP at hA
            rw [hat] at hA
            have HA := Lib.hid hA
            have HK5 := Lib.hid (congrArg (fun l : List (Msg × Value) => (l.length : Int)) (takeN_no hin))
            clear hA hat
            go_wp2_with (first | (go_at_call 31; refine HLEN.out.mono ?_; rintro e w6 ⟨rfl, rfl⟩) | (go_at_call 26; refine HA.out.mono ?_; rintro e w5 ⟨v5, rfl, -, hP5⟩; obtain ⟨vl5, hN5⟩ := HNL.out.post hP5 (fun x hx => HNL.out.len x (takeN_sub x hx)); have hk5 : (((takeN L ix).length : Nat) : Int) = (L.length : Int) := HK5.out; have hlen := n_len hN5.rep; rw [hk5] at hlen; have HLEN := Lib.hid hlen; have HN5 := Lib.hid hN5; clear hlen hN5; clear hk5))
            have hk6 : (((takeN L ix).length : Nat) : Int) = (L.length : Int) := HK5.out
            go_roundw
            case rel => exact ⟨i + 1, _, _, by omega, by go_num, by rw [hk6], by omega, HN5.out⟩
            case measure => simp [intOf]; omega
        · skip
          have e0 : (kd == 0) = false := by rw [hk]; decide
          have e1 : (kd == 1) = false := by rw [hk]; decide
          have e2 : (kd == 2) = false := by rw [hk]; decide
          have e3 : (kd == 3) = true := by simp [hk]
          have e4 : (kd == 4) = false := by rw [hk]; decide
          rcases (by omega : (0 ≤ ix ∧ ix < (L.length : Int)) ∨ (0 ≤ ix ∧ (L.length : Int) ≤ ix) ∨ ix < 0) with hin | h0 | h0
          · skip
            have d1 : decide (0 ≤ ix) = true := decide_eq_true hin.1
            have d2 : decide (ix < (L.length : Int)) = true := decide_eq_true hin.2
            obtain ⟨mm, hat, -, -⟩ := atN_in hin HNL.out.len
            have hA := n_lose HNL.out.rep ix HNL.out.l44 hL30
            rw [hat] at hA
            have HA := Lib.hid hA
            have HK5 := Lib.hid (takeN_len hin)
            clear hA hat
            go_wp2_with (first | (go_at_call 31; refine HLEN.out.mono ?_; rintro e w6 ⟨rfl, rfl⟩) | (go_at_call 28; refine HA.out.mono ?_; rintro e w5 ⟨rfl, hP5⟩; obtain ⟨vl5, hN5⟩ := HNL.out.post hP5 (fun x hx => HNL.out.len x (takeN_sub x hx)); have hk5 : (((takeN L ix).length : Nat) : Int) = (L.length : Int) - 1 := HK5.out; have hlen := n_len hN5.rep; rw [hk5] at hlen; have HLEN := Lib.hid hlen; have HN5 := Lib.hid hN5; clear hlen hN5; clear hk5))
            have hk6 : (((takeN L ix).length : Nat) : Int) = (L.length : Int) - 1 := HK5.out
            go_roundw
            case rel => exact ⟨i + 1, _, _, by omega, by go_num, by rw [hk6], by omega, HN5.out⟩
            case measure => simp [intOf]; omega
          · skip
            have hin : ¬ (0 ≤ ix ∧ ix < (L.length : Int)) := by omega
            have d1 : decide (0 ≤ ix) = true := decide_eq_true h0.1
            have d2 : decide (ix < (L.length : Int)) = false := decide_eq_false (by omega)
            have hat := atN_out hin
            have hA := n_lose HNL.out.rep ix HNL.out.l44 hL30
            rw [hat] at hA
            have HA := Lib.hid hA
            have HK5 := Lib.hid (congrArg (fun l : List (Msg × Value) => (l.length : Int)) (takeN_no hin))
            clear hA hat
            go_wp2_with (first | (go_at_call 31; refine HLEN.out.mono ?_; rintro e w6 ⟨rfl, rfl⟩) | (go_at_call 28; refine HA.out.mono ?_; rintro e w5 ⟨rfl, hP5⟩; obtain ⟨vl5, hN5⟩ := HNL.out.post hP5 (fun x hx => HNL.out.len x (takeN_sub x hx)); have hk5 : (((takeN L ix).length : Nat) : Int) = (L.length : Int) := HK5.out; have hlen := n_len hN5.rep; rw [hk5] at hlen; have HLEN := Lib.hid hlen; have HN5 := Lib.hid hN5; clear hlen hN5; clear hk5))
            have hk6 : (((takeN L ix).length : Nat) : Int) = (L.length : Int) := HK5.out
            go_roundw
            case rel => exact ⟨i + 1, _, _, by omega, by go_num, by rw [hk6], by omega, HN5.out⟩
            case measure => simp [intOf]; omega
          · skip
            have hin : ¬ (0 ≤ ix ∧ ix < (L.length : Int)) := by omega
            have d1 : decide (0 ≤ ix) = false := decide_eq_false (by omega)
            have hat := atN_out hin
            have hA := n_lose HNL.out.rep ix HNL.out.l44 hL30
            rw [hat] at hA
            have HA := Lib.hid hA
            have HK5 := Lib.hid (congrArg (fun l : List (Msg × Value) => (l.length : Int)) (takeN_no hin))
            clear hA hat
            go_wp2_with (first | (go_at_call 31; refine HLEN.out.mono ?_; rintro e w6 ⟨rfl, rfl⟩) | (go_at_call 28; refine HA.out.mono ?_; rintro e w5 ⟨rfl, hP5⟩; obtain ⟨vl5, hN5⟩ := HNL.out.post hP5 (fun x hx => HNL.out.len x (takeN_sub x hx)); have hk5 : (((takeN L ix).length : Nat) : Int) = (L.length : Int) := HK5.out; have hlen := n_len hN5.rep; rw [hk5] at hlen; have HLEN := Lib.hid hlen; have HN5 := Lib.hid hN5; clear hlen hN5; clear hk5))
            have hk6 : (((takeN L ix).length : Nat) : Int) = (L.length : Int) := HK5.out
            go_roundw
            case rel => exact ⟨i + 1, _, _, by omega, by go_num, by rw [hk6], by omega, HN5.out⟩
            case measure => simp [intOf]; omega
        · skip
          have e0 : (kd == 0) = false := by rw [hk]; decide
          have e1 : (kd == 1) = false := by rw [hk]; decide
          have e2 : (kd == 2) = false := by rw [hk]; decide
          have e3 : (kd == 3) = false := by rw [hk]; decide
          have e4 : (kd == 4) = true := by simp [hk]
          rcases (by omega : (0 ≤ ix ∧ ix < (L.length : Int)) ∨ (0 ≤ ix ∧ (L.length : Int) ≤ ix) ∨ ix < 0) with hin | h0 | h0
          · skip
            have d1 : decide (0 ≤ ix) = true := decide_eq_true hin.1
            have d2 : decide (ix < (L.length : Int)) = true := decide_eq_true hin.2
            obtain ⟨mm, hat, hmm, -⟩ := atN_in hin HNL.out.len
            have hA := n_double HNL.out.rep ix HNL.out.l44 hL30
            rw [hat] at hA
            have HA := Lib.hid hA
            clear hA hat
            go_wp2_with (first | (go_at_call 31; refine HLEN.out.mono ?_; rintro e w6 ⟨rfl, rfl⟩) | (go_at_call 29; refine HA.out.mono ?_; rintro e w5 ⟨rfl, hP5, -⟩; obtain ⟨v5, -, hP5⟩ := hP5 rfl; obtain ⟨vl5, hN5⟩ := HNL.out.post hP5 (len_app HNL.out.len hmm); have hk5 : (((L ++ [(mm, v5)]).length : Nat) : Int) = (L.length : Int) + 1 := (by simp); have HK5 := Lib.hid hk5; clear hk5; have hlen := n_len hN5.rep; rw [HK5.out] at hlen; have HLEN := Lib.hid hlen; have HN5 := Lib.hid hN5; clear hlen hN5))
            go_roundw
            case rel => exact ⟨i + 1, _, _, by omega, by go_num, by rw [HK5.out], by simp; omega, HN5.out⟩
            case measure => simp [intOf]; omega
          · skip
            have hin : ¬ (0 ≤ ix ∧ ix < (L.length : Int)) := by omega
            have d1 : decide (0 ≤ ix) = true := decide_eq_true h0.1
            have d2 : decide (ix < (L.length : Int)) = false := decide_eq_false (by omega)
            have hat := atN_out hin
            have hA := n_double HNL.out.rep ix HNL.out.l44 hL30
            rw [hat] at hA
            have HA := Lib.hid hA
            clear hA hat
            go_wp2_with (first | (go_at_call 31; refine HLEN.out.mono ?_; rintro e w6 ⟨rfl, rfl⟩) | (go_at_call 29; refine HA.out.mono ?_; rintro e w5 ⟨rfl, -, hP5⟩; obtain ⟨vl5, hN5⟩ := HNL.out.post (hP5 rfl) HNL.out.len; have HLEN := Lib.hid (n_len hN5.rep); have HN5 := Lib.hid hN5; clear hN5 hP5))
            go_roundw
            case rel => exact ⟨i + 1, _, _, by omega, by go_num, rfl, by omega, HN5.out⟩
            case measure => simp [intOf]; omega
          · skip
            have hin : ¬ (0 ≤ ix ∧ ix < (L.length : Int)) := by omega
            have d1 : decide (0 ≤ ix) = false := decide_eq_false (by omega)
            have hat := atN_out hin
            have hA := n_double HNL.out.rep ix HNL.out.l44 hL30
            rw [hat] at hA
            have HA := Lib.hid hA
            clear hA hat
            go_wp2_with (first | (go_at_call 31; refine HLEN.out.mono ?_; rintro e w6 ⟨rfl, rfl⟩) | (go_at_call 29; refine HA.out.mono ?_; rintro e w5 ⟨rfl, -, hP5⟩; obtain ⟨vl5, hN5⟩ := HNL.out.post (hP5 rfl) HNL.out.len; have HLEN := Lib.hid (n_len hN5.rep); have HN5 := Lib.hid hN5; clear hN5 hP5))
            go_roundw
            case rel => exact ⟨i + 1, _, _, by omega, by go_num, rfl, by omega, HN5.out⟩
            case measure => simp [intOf]; omega
        · skip
          have e0 : (kd == 0) = false := by simp; exact hk0
          have e1 : (kd == 1) = false := by simp; exact hk1
          have e2 : (kd == 2) = false := by simp; exact hk2
          have e3 : (kd == 3) = false := by simp; exact hk3
          have e4 : (kd == 4) = false := by simp; exact hk4
          rcases (by omega : (0 ≤ ix ∧ ix < (L.length : Int)) ∨ (0 ≤ ix ∧ (L.length : Int) ≤ ix) ∨ ix < 0) with hin | h0 | h0
          · skip
            have d1 : decide (0 ≤ ix) = true := decide_eq_true hin.1
            have d2 : decide (ix < (L.length : Int)) = true := decide_eq_true hin.2
            have HLEN := Lib.hid (n_len HNL.out.rep)
            go_wp2_with (go_at_call 31; refine HLEN.out.mono ?_; rintro e w6 ⟨rfl, rfl⟩)
            go_roundw
            case rel => exact ⟨i + 1, _, _, by omega, by go_num, rfl, by omega, HNL.out⟩
            case measure => simp [intOf]; omega
          · skip
            have hin : ¬ (0 ≤ ix ∧ ix < (L.length : Int)) := by omega
            have d1 : decide (0 ≤ ix) = true := decide_eq_true h0.1
            have d2 : decide (ix < (L.length : Int)) = false := decide_eq_false (by omega)
            have HLEN := Lib.hid (n_len HNL.out.rep)
            go_wp2_with (go_at_call 31; refine HLEN.out.mono ?_; rintro e w6 ⟨rfl, rfl⟩)
            go_roundw
            case rel => exact ⟨i + 1, _, _, by omega, by go_num, rfl, by omega, HNL.out⟩
            case measure => simp [intOf]; omega
          · skip
            have hin : ¬ (0 ≤ ix ∧ ix < (L.length : Int)) := by omega
            have d1 : decide (0 ≤ ix) = false := decide_eq_false (by omega)
            have HLEN := Lib.hid (n_len HNL.out.rep)
            go_wp2_with (go_at_call 31; refine HLEN.out.mono ?_; rintro e w6 ⟨rfl, rfl⟩)
            go_roundw
            case rel => exact ⟨i + 1, _, _, by omega, by go_num, rfl, by omega, HNL.out⟩
            case measure => simp [intOf]; omega
      · have hil : i = len := by omega
        subst hil
        have d0 : decide ((i : Int) < i) = false := decide_eq_false (by omega)
        have hat : atN (msgs L) (L.length : Int) = (noMsg, false) := atN_out (by omega)
        have hA := n_at hNL.rep (L.length : Int) hNL.l44 (by omega)
        rw [hat] at hA
        have HA := Lib.hid hA
        have HNL := Lib.hid hNL
        clear hA hat hNL
        go_wp2_with (go_at_call 23; refine HA.out.mono ?_; rintro e w5 ⟨v5, rfl, ho5, -, hb5⟩; obtain ⟨a5, c5, rfl⟩ := own_shape ho5; have hN5 := HNL.out.below hb5; have HN5 := Lib.hid hN5; clear hN5 hb5 ho5)
        go_ret
        exact ⟨rfl, HN5.out.bel.alloc HN5.out.bel.size _⟩
end Go.Proofs.Ytjbmfmhibmnaiaa
