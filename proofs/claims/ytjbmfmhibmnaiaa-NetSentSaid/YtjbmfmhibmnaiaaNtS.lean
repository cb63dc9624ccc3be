/-
  NetSent.
-/
import Derived.Test.YtjbmfmhibmnaiaaNtC
namespace Go.Proofs.Ytjbmfmhibmnaiaa
set_option linter.unusedVariables false
set_option maxRecDepth 100000
set_option linter.unusedSimpArgs false
open Go.RowKit
open Go.Proofs.YtjbmfmhibmnaiaaW.PrintLast

theorem takeN_le {α : Type} (L : List α) (i : Int) : (takeN L i).length ≤ L.length := by
  by_cases h : 0 ≤ i ∧ i < L.length
  · have := takeN_len h; omega
  · rw [takeN_no h]; exact Nat.le_refl _
/-- The cells of a call that came in, at any time. -/
theorem IsOpsN.cells {w : World} {bb oo len : Nat} {f : Nat → OpN} {vb : Nat → Value} (h : IsOpsN w (some ⟨bb, oo, none⟩) len f vb) {i : Nat} (hi : i < len) {W : World} (hB : Below w.heap.size w W) :
    W.cell? ⟨bb, oo + i * 7, none⟩ = some (.int .i64 (f i).kind) ∧ W.cell? ⟨bb, oo + i * 7 + 1, none⟩ = some (.int .i64 (f i).i) ∧ W.cell? ⟨bb, oo + i * 7 + 2, none⟩ = some (.int .i64 (f i).m.f) ∧ W.cell? ⟨bb, oo + i * 7 + 3, none⟩ = some (.int .i64 (f i).m.t) ∧
      W.cell? ⟨bb, oo + i * 7 + 4, none⟩ = some (.int .i64 (f i).m.k) ∧ W.cell? ⟨bb, oo + i * 7 + 5, none⟩ = some (.int .i64 (f i).m.i) ∧ W.cell? ⟨bb, oo + i * 7 + 6, none⟩ = some (vb i) ∧ Rb W (vb i) (f i).m.b := by
  obtain ⟨b', o', e, hlt, hc⟩ := h.below hB (by omega)
  injection e with e
  injection e with e1 e2 _
  subst e1 e2
  exact hc i hi

/-- Each message on its way was sent by one of the first n calls. -/
def Sent (f : Nat → OpN) (n : Nat) (L : List (Msg × Value)) : Prop := ∀ x ∈ L, ∃ k, k < n ∧ (f k).kind = 0 ∧ (f k).m = x.1
theorem Sent.mono {f : Nat → OpN} {n : Nat} {L : List (Msg × Value)} (h : Sent f n L) : Sent f (n + 1) L := fun x hx => by
  obtain ⟨k, h1, h2⟩ := h x hx
  exact ⟨k, by omega, h2⟩
theorem Sent.app {f : Nat → OpN} {n : Nat} {L : List (Msg × Value)} {m : Msg} {v : Value} (h : Sent f n L) (hm : ∃ k, k < n ∧ (f k).kind = 0 ∧ (f k).m = m) : Sent f n (L ++ [(m, v)]) := fun x hx => by
  rcases List.mem_append.1 hx with hx | hx
  · exact h x hx
  · rw [List.mem_singleton.1 hx]; exact hm
theorem Sent.msg {f : Nat → OpN} {n : Nat} {L : List (Msg × Value)} (h : Sent f n L) {m : Msg} (hm : m ∈ msgs L) : ∃ k, k < n ∧ (f k).kind = 0 ∧ (f k).m = m := by
  obtain ⟨x, hx, rfl⟩ := List.mem_map.1 hm
  exact h x hx

set_option maxRecDepth 100000 in
set_option maxHeartbeats 12800000 in
theorem n_sent {w : World} {a : Option Addr} {len cap : Nat} {f : Nat → OpN} {vb : Nat → Value} (h : IsOpsN w a len f vb) (hl : len ≤ 9223372036854775807) :
    Calls Try.prog 7 #[.slice a len cap] w fun e w' => e = .returned (.bool true) ∧ Below w.heap.size w w' := by
  have HO := Lib.hid h
  clear h
  go_enter Try.func7, Try.ntmps7
  go_wp2_with fail
  refine (n_awake w).mono ?_
  rintro e w1 ⟨rfl, hB1⟩
  go_wp2_with fail
  refine (n_few (HO.out.below hB1) hl).mono ?_
  rintro e w2 ⟨r, rfl, hr1, hr2, hB2⟩
  have hB2' := hB1.trans (hB2.mono hB1.size)
  clear hB1 hB2 hr2
  go_wp2_with fail
  refine (n_new w2).mono ?_
  rintro e w3 ⟨b, rfl, hb, hN3, hB3⟩
  have hn3 : ∀ k, fpN b (.slice none 0 0) [] k → w.heap.size ≤ k := by
    rintro k (rfl | hk | ⟨x, hx, _⟩)
    · exact Nat.le_trans hB2'.size hb
    · simp [Value.ownBlock] at hk
    · simp at hx
  have hL3 : NetL w w3 62 b (.slice none 0 0) [] := ⟨hN3, hB2'.trans (hB3.mono hB2'.size), hn3, by simp⟩
  clear hN3 hn3 hB3 hB2' hb
  cases r with
  | false =>
    go_wp2_with fail
    go_ret
    exact ⟨rfl, hL3.bel⟩
  | true =>
    have hF := hr1 rfl
    have HF := Lib.hid hF
    have h100 := hF.1
    clear hr1 hF
    go_wp2_with fail
    go_loopw [6] (fun iv wr => ∃ (i : Nat) (vl : Value) (L : List (Msg × Value)), i ≤ len ∧ iv = .int .i64 i ∧ L.length ≤ i ∧ NetL w wr 62 b vl L ∧ Sent f i L) (fun iv _ => len - (intOf iv).toNat)
    case atStart => exact ⟨0, _, _, by omega, rfl, by simp, hL3, fun x hx => by simp at hx⟩
    case round =>
      obtain ⟨i, vl, L, hi, rfl, hLi, hNL, hSE⟩ := hrel
      clear hL3
      have HSE := Lib.hid hSE
      clear hSE
      by_cases hlt : i < len
      · have d0 : decide ((i : Int) < len) = true := decide_eq_true (by omega)
        have i1 : (0 : Int) ≤ (i : Int) := by omega
        have i2 : (i : Int) < (len : Int) := by omega
        have i64k : IntKind.i64.wrap ((i : Int) + 1) = (i : Int) + 1 := IntWalk.i64_in _ (by omega)
        obtain ⟨bb, oo, rfl, hlb, hc⟩ := HO.out.below hNL.bel (by omega)
        obtain ⟨c0, c1, c2, c3, c4, c5, c6, hrb⟩ := hc i hlt
        obtain ⟨av, cv, ev, -⟩ := id hrb
        rw [ev] at c6 hrb
        have hmb := HF.out.2 i hlt
        obtain ⟨kd, hkd⟩ : ∃ kd, kd = (f i).kind := ⟨_, rfl⟩
        obtain ⟨ix, hix⟩ : ∃ ix, ix = (f i).i := ⟨_, rfl⟩
        obtain ⟨m, hm⟩ : ∃ m, m = (f i).m := ⟨_, rfl⟩
        rw [← hkd] at c0
        rw [← hix] at c1
        rw [← hm] at c2 c3 c4 c5 c6 hmb hrb
        have HKD := Lib.hid hkd
        have HM := Lib.hid hm
        have HNL := Lib.hid hNL
        have HRB := Lib.hid hrb
        have hL30 : L.length < 1073741824 := by omega
        clear hc ev hNL hrb hkd hix hm
        rcases (by omega : kd = 0 ∨ kd = 2 ∨ kd = 3 ∨ kd = 4 ∨ (kd ≠ 0 ∧ kd ≠ 2 ∧ kd ≠ 3 ∧ kd ≠ 4)) with hk | hk | hk | hk | ⟨hk0, hk2, hk3, hk4⟩
        · skip
          have e0 : (kd == 0) = true := by simp [hk]
          have e1 : (kd == 1) = false := by rw [hk]; decide
          have e2 : (kd == 2) = false := by rw [hk]; decide
          have e3 : (kd == 3) = false := by rw [hk]; decide
          have e4 : (kd == 4) = false := by rw [hk]; decide
          have HS := Lib.hid (n_send HNL.out.rep m HRB.out (by omega) hL30)
          go_wp2_with (go_at_call 21; refine HS.out.mono ?_; rintro e w5 ⟨rfl, v5, -, hP5⟩; obtain ⟨vl5, hN5⟩ := HNL.out.post hP5 (len_app HNL.out.len hmb); have HN5 := Lib.hid hN5; clear hN5 hP5)
          go_roundw
          case rel => exact ⟨i + 1, _, _, by omega, by go_num, by simp; omega, HN5.out, HSE.out.mono.app ⟨i, by omega, by rw [← HKD.out]; exact hk, HM.out.symm⟩⟩
          case measure => simp [intOf]; omega
        · skip
          have e0 : (kd == 0) = false := by rw [hk]; decide
          have e1 : (kd == 1) = false := by rw [hk]; decide
          have e2 : (kd == 2) = true := by simp [hk]
          have e3 : (kd == 3) = false := by rw [hk]; decide
          have e4 : (kd == 4) = false := by rw [hk]; decide
          obtain ⟨mm, is, hat, hsent⟩ : ∃ mm is, atN (msgs L) ix = (mm, is) ∧ (is = true → ∃ k, k < i ∧ (f k).kind = 0 ∧ (f k).m = mm) := by
            by_cases hin : 0 ≤ ix ∧ ix < (L.length : Int)
            · obtain ⟨mm, hat, hmm, hmem⟩ := atN_in hin HNL.out.len
              exact ⟨mm, true, hat, fun _ => HSE.out.msg hmem⟩
            · exact ⟨noMsg, false, atN_out hin, fun h => by cases h⟩
          have hA := n_take HNL.out.rep ix HNL.out.l44 hL30
          unfold TakeP at hA
          rw [hat] at hA
          have HA := Lib.hid hA
          have HSN := Lib.hid hsent
          clear hA hat hsent
          go_wp2_with (go_at_call 26; refine HA.out.mono ?_; rintro e w5 ⟨v5, rfl, hr5, hP5⟩; obtain ⟨a5, c5v, rfl⟩ := own_shape hr5; obtain ⟨vl5, hN5⟩ := HNL.out.post hP5 (fun x hx => HNL.out.len x (takeN_sub x hx)); have HR5 := Lib.hid (own_rb hr5); have HN5 := Lib.hid hN5; clear hr5 hN5 hP5 c0 c1 c2 c3 c4 c5 c6)
          have hX := Blk.new w5 (msgB mm (.slice a5 mm.b.length c5v)) 48
          have hNX := HN5.out.below ((Below.refl _ w5).alloc (Nat.le_refl _) (.cells (msgB mm (.slice a5 mm.b.length c5v)) 48))
          have hRX := HR5.out.below ((Below.refl _ w5).alloc (Nat.le_refl _) (.cells (msgB mm (.slice a5 mm.b.length c5v)) 48)) (Nat.le_refl _)
          clear HR5 HN5 HA
          generalize w5.alloc (.cells (msgB mm (.slice a5 mm.b.length c5v)) 48) = wx at *
          generalize w5.heap.size = g5 at *
          have HX := Lib.hid hX
          have HNX := Lib.hid hNX
          have HRX := Lib.hid hRX
          clear hX hNX hRX
          go_loopw [9, 10] (fun fv kv wq => ∃ (k : Nat) (fd : Bool), k ≤ i ∧ kv = .int .i64 k ∧ fv = .bool fd ∧ Below wx.heap.size wx wq ∧ (fd = false → is = true ∧ ∀ j, j < k → ¬ ((f j).kind = 0 ∧ (f j).m = mm))) (fun _ kv _ => i - (intOf kv).toNat)
          case atStart => exact ⟨0, !is, by omega, rfl, rfl, Below.refl _ _, fun h => ⟨by simpa using h, fun j hj => by omega⟩⟩
          case round =>
            obtain ⟨k, fd, hki, rfl, rfl, hbq, hall⟩ := hrel
            have HBQ := Lib.hid hbq
            have HALL := Lib.hid hall
            clear hbq hall
            cases fd with
            | true =>
              have hlast : NetL w wr 62 b vl5 (takeN L ix) := HNX.out.below HBQ.out
              have HLAST := Lib.hid hlast
              clear hlast
              by_cases hk2 : k < i
              · have d1 : decide ((k : Int) < (i : Int)) = true := decide_eq_true (by omega)
                go_wp2_with fail
                have hle := takeN_le L ix
                go_roundw
                case rel => exact ⟨i + 1, _, _, by omega, by go_num, by omega, HLAST.out, fun x hx => HSE.out.mono x (takeN_sub x hx)⟩
                case measure => simp [intOf]; omega
              · have d1 : decide ((k : Int) < (i : Int)) = false := decide_eq_false (by omega)
                go_wp2_with fail
                have hle := takeN_le L ix
                go_roundw
                case rel => exact ⟨i + 1, _, _, by omega, by go_num, by omega, HLAST.out, fun x hx => HSE.out.mono x (takeN_sub x hx)⟩
                case measure => simp [intOf]; omega
            | false =>
              have HAL2 := Lib.hid (HALL.out rfl)
              by_cases hk2 : k < i
              · have d1 : decide ((k : Int) < (i : Int)) = true := decide_eq_true (by omega)
                have hBq : Below w.heap.size w wr := (HNX.out.below HBQ.out).bel
                obtain ⟨u0, u1, u2, u3, u4, u5, u6, hru⟩ := HO.out.cells (show k < len by omega) hBq
                obtain ⟨au, cu, eu, -⟩ := id hru
                rw [eu] at u6 hru
                obtain ⟨kk, hkk⟩ : ∃ kk, kk = (f k).kind := ⟨_, rfl⟩
                obtain ⟨mk, hmk⟩ : ∃ mk, mk = (f k).m := ⟨_, rfl⟩
                rw [← hkk] at u0
                rw [← hmk] at u2 u3 u4 u5 u6 hru
                have hXq := HX.out.below HBQ.out HX.out.lt
                have hRq := HRX.out.below HBQ.out (Nat.le_refl _)
                have x0 : wr.cell? ⟨g5, 0, none⟩ = some (.int .i64 mm.f) := hXq.cell 0
                have x1 : wr.cell? ⟨g5, 1, none⟩ = some (.int .i64 mm.t) := hXq.cell 1
                have x2 : wr.cell? ⟨g5, 2, none⟩ = some (.int .i64 mm.k) := hXq.cell 2
                have x3 : wr.cell? ⟨g5, 3, none⟩ = some (.int .i64 mm.i) := hXq.cell 3
                have x4 : wr.cell? ⟨g5, 4, none⟩ = some (.slice a5 mm.b.length c5v) := hXq.cell 4
                have hSM := r_same (w := wr.drew) mm mk hRq.drew hru.drew
                have j1 : (0 : Int) ≤ (k : Int) := by omega
                have j2 : (k : Int) < (len : Int) := by omega
                have i64q : IntKind.i64.wrap ((k : Int) + 1) = (k : Int) + 1 := IntWalk.i64_in _ (by omega)
                have HKK := Lib.hid hkk
                have HMK := Lib.hid hmk
                clear eu hXq hRq hkk hmk u1
                go_wp2_with fail
                refine start_ (n := 8) (S := fun w' => w'.cell? ⟨g5, 0, none⟩ = some (.int .i64 mm.f) ∧ w'.cell? ⟨g5, 1, none⟩ = some (.int .i64 mm.t) ∧ w'.cell? ⟨g5, 2, none⟩ = some (.int .i64 mm.k) ∧ w'.cell? ⟨g5, 3, none⟩ = some (.int .i64 mm.i) ∧ w'.cell? ⟨g5, 4, none⟩ = some (.slice a5 mm.b.length c5v) ∧ w'.cell? ⟨bb, oo + k * 7 + 2, none⟩ = some (.int .i64 mk.f) ∧ w'.cell? ⟨bb, oo + k * 7 + 3, none⟩ = some (.int .i64 mk.t) ∧ w'.cell? ⟨bb, oo + k * 7 + 4, none⟩ = some (.int .i64 mk.k) ∧ w'.cell? ⟨bb, oo + k * 7 + 5, none⟩ = some (.int .i64 mk.i) ∧ w'.cell? ⟨bb, oo + k * 7 + 6, none⟩ = some (.slice au mk.b.length cu) ∧ w'.cell? ⟨bb, oo + k * 7, none⟩ = some (.int .i64 kk)) (ds := []) #[false, false, false, false, false, false, false, false] (by kernel_rfl) rfl rfl ⟨x0, x1, x2, x3, x4, u2, u3, u4, u5, u6, u0⟩ (fun hHeld => ?_)
                refine pure_ (i := 1) (N := some 75) (v := ?_) (a' := ?_) #[false, true, false, false, false, false, false, false] rfl rfl (by kernel_rfl) (fun _ _ _ h => h) (Or.inl ⟨by rfl, ?_⟩) ?_ ?_
                rotate_left
                · intro w'
                  go_simp
                  with_reducible rfl
                rotate_left
                · simp only [Act.put, List.setIfInBounds_toArray, List.set_cons_zero, List.set_cons_succ, i64_w, i32_w]
                  rfl
                refine pure_ (i := 2) (N := some 76) (v := ?_) (a' := ?_) #[false, true, true, false, false, false, false, false] rfl rfl (by kernel_rfl) (fun _ _ _ h => h) (Or.inl ⟨by rfl, ?_⟩) ?_ ?_
                rotate_left
                · intro w'
                  go_simp
                  with_reducible rfl
                rotate_left
                · simp only [Act.put, List.setIfInBounds_toArray, List.set_cons_zero, List.set_cons_succ, i64_w, i32_w]
                  rfl
                refine pure_ (i := 3) (N := some 77) (v := ?_) (a' := ?_) #[false, true, true, true, false, false, false, false] rfl rfl (by kernel_rfl) (fun _ _ _ h => h) (Or.inl ⟨by rfl, ?_⟩) ?_ ?_
                rotate_left
                · intro w'
                  go_simp
                  with_reducible rfl
                rotate_left
                · simp only [Act.put, List.setIfInBounds_toArray, List.set_cons_zero, List.set_cons_succ, i64_w, i32_w]
                  rfl
                refine pure_ (i := 4) (N := some 78) (v := ?_) (a' := ?_) #[false, true, true, true, true, false, false, false] rfl rfl (by kernel_rfl) (fun _ _ _ h => h) (Or.inl ⟨by rfl, ?_⟩) ?_ ?_
                rotate_left
                · intro w'
                  go_simp
                  with_reducible rfl
                rotate_left
                · simp only [Act.put, List.setIfInBounds_toArray, List.set_cons_zero, List.set_cons_succ, i64_w, i32_w]
                  rfl
                refine take_ (i := 0) (N := some 74) (v := ?_) (a' := ?_) #[true, true, true, true, true, false, false, false] rfl rfl (by kernel_rfl) (fun _ _ _ h => h) (Or.inl ⟨by rfl, ?_⟩) hHeld ?_ ?_
                rotate_left
                · rintro w' ⟨s0, s1, s2, s3, s4, s5, s6, s7, s8, s9, s10⟩
                  go_simp
                  with_reducible rfl
                rotate_left
                · simp only [Act.put, List.setIfInBounds_toArray, List.set_cons_zero, List.set_cons_succ, i64_w, i32_w]
                  rfl
                refine take_ (i := 5) (N := some 79) (v := ?_) (a' := ?_) #[true, true, true, true, true, true, false, false] rfl rfl (by kernel_rfl) (fun _ _ _ h => h) (Or.inl ⟨by rfl, ?_⟩) hHeld ?_ ?_
                rotate_left
                · rintro w' ⟨s0, s1, s2, s3, s4, s5, s6, s7, s8, s9, s10⟩
                  go_simp
                  with_reducible rfl
                rotate_left
                · simp only [Act.put, List.setIfInBounds_toArray, List.set_cons_zero, List.set_cons_succ, i64_w, i32_w]
                  rfl
                refine one_ (i := 6) (N := some 80) #[true, true, true, true, true, true, true, false] rfl rfl (by kernel_rfl) (by decide) (fun K hK => ?_)
                refine goes_ Try.func25 (by kernel_rfl) rfl #[.agg #[.int .i64 mm.f, .int .i64 mm.t, .int .i64 mm.k, .int .i64 mm.i, .slice a5 mm.b.length c5v], .agg #[.int .i64 mk.f, .int .i64 mk.t, .int .i64 mk.k, .int .i64 mk.i, .slice au mk.b.length cu]] (by rfl) rfl rfl (by simp only [List.map_toArray, List.map_cons, List.map_nil]; rfl) ?_
                with_reducible refine (hSM).mono ?_
                rintro e w8 ⟨r, rfl, hr, hb8⟩
                refine ⟨_, rfl, ?_⟩
                have K8 := Keeps.ofBelow (F := fun _ => False) hb8
                have v0 := K8.cellSome (fun h => h) u0
                try clear hHeld
                refine hK.out _ _ ⟨(K8.cellSome (fun h => h) x0), (K8.cellSome (fun h => h) x1), (K8.cellSome (fun h => h) x2), (K8.cellSome (fun h => h) x3), (K8.cellSome (fun h => h) x4), (K8.cellSome (fun h => h) u2), (K8.cellSome (fun h => h) u3), (K8.cellSome (fun h => h) u4), (K8.cellSome (fun h => h) u5), (K8.cellSome (fun h => h) u6), (K8.cellSome (fun h => h) u0)⟩ (fun hHeld => ?_)
                clear hK K
                refine norm_ (a' := ?_) ?_ ?_
                rotate_left
                · show Act.put _ (some 80) _ = _
                  simp only [Act.put, List.setIfInBounds_toArray, List.set_cons_zero, List.set_cons_succ, i64_w, i32_w]
                  rfl
                refine pure_ (i := 7) (N := some 11) (v := ?_) (a' := ?_) #[true, true, true, true, true, true, true, true] rfl rfl (by kernel_rfl) (fun _ _ _ h => h) (Or.inl ⟨by rfl, ?_⟩) ?_ ?_
                rotate_left
                · intro w'
                  go_simp
                  with_reducible rfl
                rotate_left
                · simp only [Act.put, List.setIfInBounds_toArray, List.set_cons_zero, List.set_cons_succ, i64_w, i32_w]
                  rfl
                try clear hHeld
                refine done_ (by kernel_rfl) ?_
                have HB8 := Lib.hid (HBQ.out.trans (((Below.refl wr.heap.size wr).drew.trans (hb8.mono (Nat.le_refl _))).mono HBQ.out.size))
                have HR := Lib.hid hr
                clear x0 x1 x2 x3 x4 u0 u2 u3 u4 u5 u6 hSM hb8 K8 hr
                rcases (by cases r <;> simp : r = false ∨ r = true) with rfl | rfl
                · go_wp2_with fail
                  go_roundw
                  case rel =>
                    refine ⟨k + 1, false, by omega, by go_num, rfl, HB8.out, fun _ => ⟨HAL2.out.1, fun j hj => ?_⟩⟩
                    rcases Nat.lt_or_ge j k with g | g
                    · exact HAL2.out.2 j g
                    · have : j = k := by omega
                      subst this
                      rintro ⟨-, e⟩
                      have := HR.out (by rw [HMK.out, e])
                      cases this
                  case measure => simp [intOf]; omega
                · by_cases hkz : kk = 0
                  · have ez : (kk == 0) = true := by simp [hkz]
                    go_wp2_with fail
                    go_roundw
                    case rel => exact ⟨k + 1, true, by omega, by go_num, rfl, HB8.out, fun h => by cases h⟩
                    case measure => simp [intOf]; omega
                  · have ez : (kk == 0) = false := by simp; exact hkz
                    go_wp2_with fail
                    go_roundw
                    case rel =>
                      refine ⟨k + 1, false, by omega, by go_num, rfl, HB8.out, fun _ => ⟨HAL2.out.1, fun j hj => ?_⟩⟩
                      rcases Nat.lt_or_ge j k with g | g
                      · exact HAL2.out.2 j g
                      · have : j = k := by omega
                        subst this
                        rintro ⟨e, -⟩
                        exact hkz (by rw [HKK.out]; exact e)
                    case measure => simp [intOf]; omega
              · obtain ⟨h1, h2⟩ := HALL.out rfl
                obtain ⟨k', hk', e0', em'⟩ := HSN.out h1
                exact absurd ⟨e0', em'⟩ (h2 k' (by omega))
        · skip
          have e0 : (kd == 0) = false := by rw [hk]; decide
          have e1 : (kd == 1) = false := by rw [hk]; decide
          have e2 : (kd == 2) = false := by rw [hk]; decide
          have e3 : (kd == 3) = true := by simp [hk]
          have e4 : (kd == 4) = false := by rw [hk]; decide
          have HA := Lib.hid (n_lose HNL.out.rep ix HNL.out.l44 hL30)
          go_wp2_with (go_at_call 28; refine HA.out.mono ?_; rintro e w5 ⟨rfl, hP5⟩; obtain ⟨vl5, hN5⟩ := HNL.out.post hP5 (fun x hx => HNL.out.len x (takeN_sub x hx)); have HN5 := Lib.hid hN5; clear hN5 hP5)
          have hle := takeN_le L ix
          go_roundw
          case rel => exact ⟨i + 1, _, _, by omega, by go_num, by omega, HN5.out, fun x hx => HSE.out.mono x (takeN_sub x hx)⟩
          case measure => simp [intOf]; omega
        · skip
          have e0 : (kd == 0) = false := by rw [hk]; decide
          have e1 : (kd == 1) = false := by rw [hk]; decide
          have e2 : (kd == 2) = false := by rw [hk]; decide
          have e3 : (kd == 3) = false := by rw [hk]; decide
          have e4 : (kd == 4) = true := by simp [hk]
          have HA := Lib.hid (n_double HNL.out.rep ix HNL.out.l44 hL30)
          by_cases hin : 0 ≤ ix ∧ ix < (L.length : Int)
          · obtain ⟨mm, hat, hmm, hmem⟩ := atN_in hin HNL.out.len
            rw [hat] at HA
            go_wp2_with (go_at_call 29; refine HA.out.mono ?_; rintro e w5 ⟨rfl, hP5, -⟩; obtain ⟨v5, -, hP5⟩ := hP5 rfl; obtain ⟨vl5, hN5⟩ := HNL.out.post hP5 (len_app HNL.out.len hmm); have HN5 := Lib.hid hN5; clear hN5 hP5)
            go_roundw
            case rel => exact ⟨i + 1, _, _, by omega, by go_num, by simp; omega, HN5.out, HSE.out.mono.app (HSE.out.mono.msg hmem)⟩
            case measure => simp [intOf]; omega
          · rw [atN_out hin] at HA
            go_wp2_with (go_at_call 29; refine HA.out.mono ?_; rintro e w5 ⟨rfl, -, hP5⟩; obtain ⟨vl5, hN5⟩ := HNL.out.post (hP5 rfl) HNL.out.len; have HN5 := Lib.hid hN5; clear hN5 hP5)
            go_roundw
            case rel => exact ⟨i + 1, _, _, by omega, by go_num, by omega, HN5.out, HSE.out.mono⟩
            case measure => simp [intOf]; omega
        · skip
          have e0 : (kd == 0) = false := by simp; exact hk0
          have e2 : (kd == 2) = false := by simp; exact hk2
          have e3 : (kd == 3) = false := by simp; exact hk3
          have e4 : (kd == 4) = false := by simp; exact hk4
          go_wp2_with fail
          go_roundw
          case rel => exact ⟨i + 1, _, _, by omega, by go_num, by omega, HNL.out, HSE.out.mono⟩
          case measure => simp [intOf]; omega
      · have hil : i = len := by omega
        subst hil
        have d0 : decide ((i : Int) < i) = false := decide_eq_false (by omega)
        have HNL := Lib.hid hNL
        clear hNL
        go_wp2_with fail
        go_ret
        exact ⟨rfl, HNL.out.bel⟩
end Go.Proofs.Ytjbmfmhibmnaiaa
