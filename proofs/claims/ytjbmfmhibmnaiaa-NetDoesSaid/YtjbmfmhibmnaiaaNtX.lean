/-
  NetDoes.
-/
import Derived.Test.YtjbmfmhibmnaiaaNtY
namespace Go.Proofs.Ytjbmfmhibmnaiaa
set_option linter.unusedVariables false
set_option maxRecDepth 100000
set_option linter.unusedSimpArgs false
open Go.RowKit
open Go.Proofs.YtjbmfmhibmnaiaaW.PrintLast

/-- The cells of a call that came in, at any time. -/
theorem IsOpsN.cells {w : World} {bb oo len : Nat} {f : Nat → OpN} {vb : Nat → Value} (h : IsOpsN w (some ⟨bb, oo, none⟩) len f vb) {i : Nat} (hi : i < len) {W : World} (hB : Below w.heap.size w W) :
    W.cell? ⟨bb, oo + i * 7, none⟩ = some (.int .i64 (f i).kind) ∧ W.cell? ⟨bb, oo + i * 7 + 1, none⟩ = some (.int .i64 (f i).i) ∧ W.cell? ⟨bb, oo + i * 7 + 2, none⟩ = some (.int .i64 (f i).m.f) ∧ W.cell? ⟨bb, oo + i * 7 + 3, none⟩ = some (.int .i64 (f i).m.t) ∧
      W.cell? ⟨bb, oo + i * 7 + 4, none⟩ = some (.int .i64 (f i).m.k) ∧ W.cell? ⟨bb, oo + i * 7 + 5, none⟩ = some (.int .i64 (f i).m.i) ∧ W.cell? ⟨bb, oo + i * 7 + 6, none⟩ = some (vb i) ∧ Rb W (vb i) (f i).m.b := by
  obtain ⟨b', o', e, hlt, hc⟩ := h.below hB (by omega)
  injection e with e
  injection e with e1 e2 _
  subst e1 e2
  exact hc i hi

set_option maxRecDepth 100000 in
set_option maxHeartbeats 25600000 in
theorem n_does {w : World} {a : Option Addr} {len cap : Nat} {f : Nat → OpN} {vb : Nat → Value} (h : IsOpsN w a len f vb) (hl : len ≤ 9223372036854775807) :
    Calls Try.prog 6 #[.slice a len cap] w fun e w' => e = .returned (.bool true) ∧ Below w.heap.size w w' := by
  have HO := Lib.hid h
  clear h
  go_enter Try.func6, Try.ntmps6
  go_wp2_with fail
  refine (n_awake w).mono ?_
  rintro e w1 ⟨rfl, hB1⟩
  go_wp2_with fail
  refine (n_few (HO.out.below hB1) hl).mono ?_
  rintro e w2 ⟨r, rfl, hr1, hr2, hB2⟩
  have hB2' := hB1.trans (hB2.mono hB1.size)
  clear hB1 hB2 hr2
  go_wp2_with fail
  refine (n_new w2).mono ?_
  rintro e w3 ⟨b, rfl, hb, hN3, hB3⟩
  have hn3 : ∀ k, fpN b (.slice none 0 0) [] k → w.heap.size ≤ k := by
    rintro k (rfl | hk | ⟨x, hx, _⟩)
    · exact Nat.le_trans hB2'.size hb
    · simp [Value.ownBlock] at hk
    · simp at hx
  have hL3 : NetL w w3 62 b (.slice none 0 0) [] := ⟨hN3, hB2'.trans (hB3.mono hB2'.size), hn3, by simp⟩
  clear hN3 hn3 hB3 hB2' hb
  cases r with
  | false =>
    go_wp2_with fail
    go_ret
    exact ⟨rfl, hL3.bel⟩
  | true =>
    have hF := hr1 rfl
    have HF := Lib.hid hF
    have h100 := hF.1
    clear hr1 hF
    have hL4 := hL3.below ((Below.refl _ w3).alloc (Nat.le_refl _) (.cells #[.slice none 0 0] 45))
    have hE4 : NetE w (w3.alloc (.cells #[.slice none 0 0] 45)) b w3.heap.size (.slice none 0 0) (.slice none 0 0) [] [] := by
      refine ⟨hL4, ⟨⟨Blk.new _ _ _, World.ownsRow_nil .., by simp⟩, hL4.bel, ?_, by simp⟩, ?_⟩
      · rintro k (rfl | hk | ⟨x, hx, _⟩)
        · exact hL3.bel.size
        · simp [Value.ownBlock] at hk
        · simp at hx
      · rintro k hk (rfl | hk2 | ⟨x, hx, _⟩)
        · have := hL3.rep.lt hk; omega
        · simp [Value.ownBlock] at hk2
        · simp at hx
    have HE4 := Lib.hid hE4
    clear hL4 hE4 hL3
    go_wp2_with fail
    generalize w3.alloc (.cells #[.slice none 0 0] 45) = w4 at *
    generalize w3.heap.size = g at *
    go_loopw [7] (fun iv wr => ∃ (i : Nat) (vl vr : Value) (L M : List (Msg × Value)), i ≤ len ∧ iv = .int .i64 i ∧ L.length ≤ i ∧ NetE w wr b g vl vr L M ∧ msgs L = msgs M) (fun iv _ => len - (intOf iv).toNat)
    case atStart => exact ⟨0, _, _, _, _, by omega, rfl, by simp, HE4.out, rfl⟩
    case round =>
      obtain ⟨i, vl, vr, L, M, hi, rfl, hLi, hNE, hLM⟩ := hrel
      clear HE4
      have HLM := Lib.hid hLM
      have hML := msgs_len hLM
      clear hLM
      by_cases hlt : i < len
      · have d0 : decide ((i : Int) < len) = true := decide_eq_true (by omega)
        have i1 : (0 : Int) ≤ (i : Int) := by omega
        have i2 : (i : Int) < (len : Int) := by omega
        have i64k : IntKind.i64.wrap ((i : Int) + 1) = (i : Int) + 1 := IntWalk.i64_in _ (by omega)
        obtain ⟨bb, oo, rfl, hlb, hc⟩ := HO.out.below hNE.n.bel (by omega)
        have hcl := fun (W : World) (hB : Below w.heap.size w W) => HO.out.cells hlt hB
        have hmb := HF.out.2 i hlt
        obtain ⟨av, cv, ev, -⟩ := id (hc i hlt).2.2.2.2.2.2.2
        generalize (f i).kind = kd at *
        generalize (f i).i = ix at *
        generalize (f i).m = m at *
        rw [ev] at hcl
        obtain ⟨c0, c1, c2, c3, c4, c5, c6, hrb⟩ := hcl _ hNE.n.bel
        have HCL := Lib.hid hcl
        have HNE := Lib.hid hNE
        have HRB := Lib.hid hrb
        have hL30 : L.length < 1073741824 := by omega
        have hM30 : M.length < 1073741824 := by omega
        clear hc ev hNE hrb hcl
        rcases (by omega : kd = 3 ∨ kd = 0 ∨ kd = 1 ∨ kd = 2 ∨ kd = 4 ∨ (kd ≠ 0 ∧ kd ≠ 1 ∧ kd ≠ 2 ∧ kd ≠ 3 ∧ kd ≠ 4)) with hk | hk | hk | hk | hk | ⟨hk0, hk1, hk2, hk3, hk4⟩
        · skip
          have e0 : (kd == 0) = false := by rw [hk]; decide
          have e1 : (kd == 1) = false := by rw [hk]; decide
          have e2 : (kd == 2) = false := by rw [hk]; decide
          have e3 : (kd == 3) = true := by simp [hk]
          have e4 : (kd == 4) = false := by rw [hk]; decide
          obtain ⟨mm, is, hat⟩ : ∃ mm is, atN (msgs L) ix = (mm, is) := ⟨_, _, rfl⟩
          have hT := r_take HNE.out.r.rep ix hM30
          unfold TakeP at hT
          rw [← HLM.out, hat] at hT
          have HT := Lib.hid hT
          have HAT := Lib.hid hat
          clear hT hat
          go_wp2_with (first | (go_at_call 28; refine HA.out.mono ?_; rintro e w6 ⟨rfl, hP6⟩; obtain ⟨vl6, hE6, -, -⟩ := HE5.out.postN hP6 (fun x hx => HE5.out.n.len x (takeN_sub x hx)); have HE6 := Lib.hid hE6; clear hE6 hP6) | (go_at_call 27; refine HT.out.mono ?_; rintro e w5 ⟨v5, rfl, ho5, hP5⟩; obtain ⟨vr5, hE5, -, -⟩ := HNE.out.postR hP5 (fun x hx => HNE.out.r.len x (takeN_sub x hx)); obtain ⟨a5, k5, rfl⟩ := own_shape ho5; have hE5' := hE5.below ((Below.refl _ w5).alloc (Nat.le_refl _) (.cells (msgB mm (.slice a5 mm.b.length k5)) 48)); have hA := n_lose hE5'.n.rep ix hE5'.n.l44 hL30; rw [HAT.out] at hA; have HA := Lib.hid hA; have HE5 := Lib.hid hE5'; obtain ⟨-, c1, -⟩ := HCL.out _ hE5'.n.bel; clear ho5 hP5 hE5 hE5' hA))
          have hlm_ := (by rw [msgs_take, msgs_take, HLM.out] : msgs (takeN L ix) = msgs (takeN M ix))
          have hml_ := msgs_len hlm_
          obtain ⟨ar_, cr_, evr_⟩ := own_shape HE6.out.r.rep.own
          have r0_ := HE6.out.r.rep.blk.cell 0
          rw [evr_, hml_] at r0_
          simp only [List.getElem?_toArray, List.length_cons, List.length_nil] at r0_
          have hlen_ := n_len (w := w6.drew) ⟨HE6.out.n.rep.blk.drew, HE6.out.n.rep.own, HE6.out.n.rep.bytes⟩
          have hbn_ : (((((takeN L ix)).length : Nat) : Int) != ((((takeN L ix)).length : Nat) : Int)) = false := by simp
          clear evr_ hml_
          refine start_ (n := 12) (S := fun w' => w'.cell? ⟨g, 0, none⟩ = some (.slice ar_ ((takeN L ix)).length cr_)) (ds := []) #[false, false, false, false, false, false, false, false, false, false, false, false] (by kernel_rfl) rfl rfl (r0_) (fun hHeld => ?_)
          refine pure_ (i := 0) (N := some 199) (v := ?_) (a' := ?_) #[true, false, false, false, false, false, false, false, false, false, false, false] rfl rfl (by kernel_rfl) (fun _ _ _ h => h) (Or.inl ⟨by rfl, ?_⟩) ?_ ?_
          rotate_left
          · intro w'
            go_simp
            with_reducible rfl
          rotate_left
          · simp only [Act.put, List.setIfInBounds_toArray, List.set_cons_zero, List.set_cons_succ, i64_w, i32_w]
            rfl
          refine pure_ (i := 1) (N := some 200) (v := ?_) (a' := ?_) #[true, true, false, false, false, false, false, false, false, false, false, false] rfl rfl (by kernel_rfl) (fun _ _ _ h => h) (Or.inl ⟨by rfl, ?_⟩) ?_ ?_
          rotate_left
          · intro w'
            go_simp
            with_reducible rfl
          rotate_left
          · simp only [Act.put, List.setIfInBounds_toArray, List.set_cons_zero, List.set_cons_succ, i64_w, i32_w]
            rfl
          refine pure_ (i := 2) (N := some 201) (v := ?_) (a' := ?_) #[true, true, true, false, false, false, false, false, false, false, false, false] rfl rfl (by kernel_rfl) (fun _ _ _ h => h) (Or.inl ⟨by rfl, ?_⟩) ?_ ?_
          rotate_left
          · intro w'
            go_simp
            with_reducible rfl
          rotate_left
          · simp only [Act.put, List.setIfInBounds_toArray, List.set_cons_zero, List.set_cons_succ, i64_w, i32_w]
            rfl
          refine pure_ (i := 3) (N := some 202) (v := ?_) (a' := ?_) #[true, true, true, true, false, false, false, false, false, false, false, false] rfl rfl (by kernel_rfl) (fun _ _ _ h => h) (Or.inl ⟨by rfl, ?_⟩) ?_ ?_
          rotate_left
          · intro w'
            go_simp
            with_reducible rfl
          rotate_left
          · simp only [Act.put, List.setIfInBounds_toArray, List.set_cons_zero, List.set_cons_succ, i64_w, i32_w]
            rfl
          refine pure_ (i := 5) (N := some 204) (v := ?_) (a' := ?_) #[true, true, true, true, false, true, false, false, false, false, false, false] rfl rfl (by kernel_rfl) (fun _ _ _ h => h) (Or.inl ⟨by rfl, ?_⟩) ?_ ?_
          rotate_left
          · intro w'
            go_simp
            with_reducible rfl
          rotate_left
          · simp only [Act.put, List.setIfInBounds_toArray, List.set_cons_zero, List.set_cons_succ, i64_w, i32_w]
            rfl
          refine pure_ (i := 6) (N := some 205) (v := ?_) (a' := ?_) #[true, true, true, true, false, true, true, false, false, false, false, false] rfl rfl (by kernel_rfl) (fun _ _ _ h => h) (Or.inl ⟨by rfl, ?_⟩) ?_ ?_
          rotate_left
          · intro w'
            go_simp
            with_reducible rfl
          rotate_left
          · simp only [Act.put, List.setIfInBounds_toArray, List.set_cons_zero, List.set_cons_succ, i64_w, i32_w]
            rfl
          refine pure_ (i := 7) (N := some 206) (v := ?_) (a' := ?_) #[true, true, true, true, false, true, true, true, false, false, false, false] rfl rfl (by kernel_rfl) (fun _ _ _ h => h) (Or.inl ⟨by rfl, ?_⟩) ?_ ?_
          rotate_left
          · intro w'
            go_simp
            with_reducible rfl
          rotate_left
          · simp only [Act.put, List.setIfInBounds_toArray, List.set_cons_zero, List.set_cons_succ, i64_w, i32_w]
            rfl
          refine take_ (i := 8) (N := some 207) (v := ?_) (a' := ?_) #[true, true, true, true, false, true, true, true, true, false, false, false] rfl rfl (by kernel_rfl) (fun _ _ _ h => h) (Or.inl ⟨by rfl, ?_⟩) hHeld ?_ ?_
          rotate_left
          · intro w' s0
            go_simp
            with_reducible rfl
          rotate_left
          · simp only [Act.put, List.setIfInBounds_toArray, List.set_cons_zero, List.set_cons_succ, i64_w, i32_w]
            rfl
          refine pure_ (i := 9) (N := some 208) (v := ?_) (a' := ?_) #[true, true, true, true, false, true, true, true, true, true, false, false] rfl rfl (by kernel_rfl) (fun _ _ _ h => h) (Or.inl ⟨by rfl, ?_⟩) ?_ ?_
          rotate_left
          · intro w'
            go_simp
            with_reducible rfl
          rotate_left
          · simp only [Act.put, List.setIfInBounds_toArray, List.set_cons_zero, List.set_cons_succ, i64_w, i32_w]
            rfl
          refine one_ (i := 4) (N := some 203) #[true, true, true, true, true, true, true, true, true, true, false, false] rfl rfl (by kernel_rfl) (by decide) (fun K hK => ?_)
          refine goes_ Try.func31 (by kernel_rfl) rfl #[.pointer (some ⟨b, 0, none⟩)] (by rfl) rfl rfl (by simp only [List.map_toArray, List.map_cons, List.map_nil]; rfl) ?_
          with_reducible refine (hlen_).mono ?_
          rintro e w9 ⟨rfl, rfl⟩
          refine ⟨_, rfl, ?_⟩
          try clear hHeld
          refine hK.out _ _ (r0_) (fun hHeld => ?_)
          clear hK K
          refine norm_ (a' := ?_) ?_ ?_
          rotate_left
          · show Act.put _ (some 203) _ = _
            simp only [Act.put, List.setIfInBounds_toArray, List.set_cons_zero, List.set_cons_succ, i64_w, i32_w]
            rfl
          refine pure_ (i := 10) (N := some 209) (v := ?_) (a' := ?_) #[true, true, true, true, true, true, true, true, true, true, true, false] rfl rfl (by kernel_rfl) (fun _ _ _ h => h) (Or.inl ⟨by rfl, ?_⟩) ?_ ?_
          rotate_left
          · intro w'
            go_simp
            with_reducible rfl
          rotate_left
          · simp only [Act.put, List.setIfInBounds_toArray, List.set_cons_zero, List.set_cons_succ, i64_w, i32_w]
            rfl
          refine pure_ (i := 11) (N := some 210) (v := ?_) (a' := ?_) #[true, true, true, true, true, true, true, true, true, true, true, true] rfl rfl (by kernel_rfl) (fun _ _ _ h => h) (Or.inl ⟨by rfl, ?_⟩) ?_ ?_
          rotate_left
          · intro w'
            go_simp
            with_reducible rfl
          rotate_left
          · simp only [Act.put, List.setIfInBounds_toArray, List.set_cons_zero, List.set_cons_succ, i64_w, i32_w]
            rfl
          try clear hHeld
          refine done_ (by kernel_rfl) ?_
          clear r0_ hlen_
          go_wp2_with fail
          go_roundw
          case rel => exact ⟨i + 1, _, _, _, _, by omega, by go_num, by have := takeN_le L ix; omega, HE6.out.below (Below.refl _ _).drew, hlm_⟩
          case measure => simp [intOf]; omega
        · skip
          have e0 : (kd == 0) = true := by simp [hk]
          have e1 : (kd == 1) = false := by rw [hk]; decide
          have e2 : (kd == 2) = false := by rw [hk]; decide
          have e3 : (kd == 3) = false := by rw [hk]; decide
          have e4 : (kd == 4) = false := by rw [hk]; decide
          obtain ⟨mm, hmm⟩ : ∃ mm, mm = m := ⟨_, rfl⟩
          subst hmm
          have hE5 := HNE.out.below ((Below.refl _ wr).alloc (Nat.le_refl _) (.cells (msgB mm (.slice av mm.b.length cv)) 48))
          have hB5 := Blk.new wr (msgB mm (.slice av mm.b.length cv)) 48
          have hR5 := HRB.out.below ((Below.refl _ wr).alloc (Nat.le_refl _) (.cells (msgB mm (.slice av mm.b.length cv)) 48)) (Nat.le_refl _)
          have b4 : (wr.alloc (.cells (msgB mm (.slice av mm.b.length cv)) 48)).cell? ⟨wr.heap.size, 4, none⟩ = some (.slice av mm.b.length cv) := hB5.cell 4
          have hsz5 : (wr.alloc (.cells (msgB mm (.slice av mm.b.length cv)) 48)).heap.size = wr.heap.size + 1 := by simp
          have HE5 := Lib.hid hE5
          have HB5 := Lib.hid hB5
          have HR5 := Lib.hid hR5
          clear hE5 hB5 hR5
          go_wp2_with (first
            | (go_at_call 21; refine HS.out.mono ?_; rintro e w8 ⟨rfl, v8, hf8, hP8⟩; obtain ⟨vl8, hE8, hg8, hk8⟩ := HE7.out.postN hP8 (len_app HE7.out.n.len hmb); have hB8 := HB7.out.keeps hk8 (fun e => e.elim (fun e => blk_ne HE7.out.n.rep.blk HB7.out (by decide) e.symm) (fun e => by have := own_lt HNE.out.n.rep.own e; omega)); have hO8 := own_keeps HO7.out hk8 (fun k hk e => e.elim (fun e => own_blk_ne HO7.out HE7.out.n.rep.blk (by decide) (e ▸ hk)) (fun e => own_type_ne HO7.out HE7.out.n.rep.own (by decide) hk e)); obtain ⟨-, -, c2, c3_, c4, c5, c6, hrb8⟩ := HCL.out _ hE8.n.bel; have HRS := Lib.hid (r_send hE8.r.rep mm hrb8 (by omega) hM30); have s8 := hk8.size; have HG8 := Lib.hid hg8; have HE8 := Lib.hid hE8; have HB8 := Lib.hid hB8; have HO8 := Lib.hid hO8; clear hP8 hE8 hg8 hk8 hB8 hO8 hf8 hrb8 q0 q1 q2 q3 q4 f4)
            | (go_at_call 22; refine HRS.out.mono ?_; rintro e w9 ⟨rfl, v9, hf9, hP9⟩; obtain ⟨vr9, hE9, hg9, hk9⟩ := HE8.out.postR hP9 (len_app HE8.out.r.len hmb); have hB9 := HB8.out.keeps hk9 (fun e => e.elim (fun e => blk_ne HE8.out.r.rep.blk HB8.out (by decide) e.symm) (fun e => by have := own_lt HNE.out.r.rep.own e; omega)); have hO9 := own_keeps HO8.out hk9 (fun k hk e => e.elim (fun e => own_blk_ne HO8.out HE8.out.r.rep.blk (by decide) (e ▸ hk)) (fun e => own_type_ne HO8.out HE8.out.r.rep.own (by decide) hk e)); have HG9 := Lib.hid hg9; have HE9 := Lib.hid hE9; have HB9 := Lib.hid hB9; have HO9 := Lib.hid hO9; clear hP9 hE9 hg9 hk9 hB9 hO9 hf9 c2 c3_ c4 c5 c6)
            | (at_builtin; refine wpList_bcopy_nil rfl _ _ rfl rfl _ mm.b rfl HR5.out (by omega) ?_; intro v' w6 ho hg hf; obtain ⟨a3, c3, rfl⟩ := own_shape ho; have hb6 : Below (wr.alloc (.cells (msgB mm (.slice av mm.b.length cv)) 48)).heap.size (wr.alloc (.cells (msgB mm (.slice av mm.b.length cv)) 48)) w6 := ⟨hg.os, hg.tape, hg.output, hg.size, fun k hk => hg.block k hk (by simp)⟩; have hE6 := HE5.out.below hb6; have hB6 := HB5.out.below hb6 HB5.out.lt; have s6 : wr.heap.size + 1 ≤ w6.heap.size := (by have := hb6.size; omega); have q0 := hB6.cell 0; have q1 := hB6.cell 1; have q2 := hB6.cell 2; have q3 := hB6.cell 3; have q4 := hB6.cell 4; simp at q0 q1 q2 q3 q4;  have f4 := hB6.frozen 4; have hE7 := hE6.write (q := wr.heap.size) ((Keeps.refl (fun k => k = wr.heap.size) w6).set wr.heap.size 4 (.inl rfl) (.slice a3 mm.b.length c3)) HNE.out.n.bel.size (fun e => by have := HNE.out.n.rep.lt e; omega) (fun e => by have := HNE.out.r.rep.lt e; omega); have hO7 := own_set ho hB6 (by decide) 4 (.slice a3 mm.b.length c3); have hB7 : Blk (w6.setCell ⟨wr.heap.size, 4, none⟩ (.slice a3 mm.b.length c3)) wr.heap.size (msgB mm (.slice a3 mm.b.length c3)) 48 := (by simpa using hB6.set 4 (.slice a3 mm.b.length c3)); have s7 : w6.heap.size ≤ (w6.setCell ⟨wr.heap.size, 4, none⟩ (.slice a3 mm.b.length c3)).heap.size := (by simp); have HS := Lib.hid (n_send hE7.n.rep mm (own_rb hO7) (by omega) hL30); have HF := Lib.hid hf; have hlt6 := fun k hk => own_lt (k := k) ho hk; have HLT6 := Lib.hid hlt6; have HE7 := Lib.hid hE7; have HB7 := Lib.hid hB7; have HO7 := Lib.hid hO7; clear ho hg hf hb6 hE6 hB6 hE7 hB7 hO7 hlt6 b4 c0 c1 c2 c4 c5 c6))
          have H7 : Hid (Own7 w w9 b g vl8 vr9 (L ++ [(mm, v8)]) (M ++ [(mm, v9)]) wr.heap.size mm (.slice a3 mm.b.length c3)) := Lib.hid (by
            refine ⟨HE9.out, HB9.out, ⟨mm.b, rfl, HO9.out⟩, fun k hk => ?_⟩
            have h1 := HF.out k hk
            rw [World.size_alloc] at h1
            have h2 := HLT6.out k hk
            have h3 := HNE.out.n.bel.size
            refine ⟨by omega, fun e => ?_, fun e => ?_⟩
            · rcases HG8.out k e with e | e
              · have := HNE.out.n.rep.lt e; omega
              · omega
            · rcases HG9.out k e with e | e
              · have := HNE.out.r.rep.lt e; omega
              · omega)
          clear HE9 HB9 HO9 HG8 HG9 HE8 HB8 HO8 HE7 HB7 HO7 HF HLT6 HS HRS HE5 HB5 HR5
          go_loopw [10] (fun kv wq => ∃ k : Nat, k ≤ mm.b.length ∧ kv = .int .i64 k ∧ Own7 w wq b g vl8 vr9 (L ++ [(mm, v8)]) (M ++ [(mm, v9)]) wr.heap.size mm (.slice a3 mm.b.length c3)) (fun kv _ => mm.b.length - (intOf kv).toNat)
          case atStart => exact ⟨0, by omega, rfl, H7.out⟩
          case round =>
            obtain ⟨k, hk7, rfl, hO7⟩ := hrel
            clear H7
            by_cases hk8 : k < mm.b.length
            · obtain ⟨ys, hys, hoy⟩ := hO7.own
              obtain ⟨q, c3', e3, -, -⟩ := own_open hoy (by omega)
              injection e3 with e3 _ e4
              subst e3 e4
              have b4 := hO7.box.cell 4
              simp at b4
              have y0 := (World.ownsRow.cellAt hoy k (by omega)).trans (byt_get ys k (by omega))
              have fy := World.ownsRow.frozenAt hoy k
              have d7 : decide ((k : Int) < (mm.b.length : Int)) = true := decide_eq_true (by omega)
              have k1 : (0 : Int) ≤ (k : Int) := by omega
              have k2 : (k : Int) < (mm.b.length : Int) := by omega
              have i64q : IntKind.i64.wrap ((k : Int) + 1) = (k : Int) + 1 := IntWalk.i64_in _ (by omega)
              have HO7 := Lib.hid hO7
              clear hO7 hoy hys
              go_wp2_with fail
              go_roundw
              case rel => exact ⟨k + 1, by omega, by go_num, HO7.out.set k⟩
              case measure => simp [intOf]; omega
            · have hk9 : k = mm.b.length := by omega
              clear hk7
              rw [hk9] at *
              have d7 : decide ((mm.b.length : Int) < (mm.b.length : Int)) = false := decide_eq_false (by omega)
              have b4 := hO7.box.cell 4
              simp at b4
              have HE9 := Lib.hid hO7.e
              clear hO7
              go_wp2_with fail
              have hlm_ := (by rw [msgs_app, msgs_app, HLM.out] : msgs (L ++ [(mm, v8)]) = msgs (M ++ [(mm, v9)]))
              have hml_ := msgs_len hlm_
              obtain ⟨ar_, cr_, evr_⟩ := own_shape HE9.out.r.rep.own
              have r0_ := HE9.out.r.rep.blk.cell 0
              rw [evr_, hml_] at r0_
              simp only [List.getElem?_toArray, List.length_cons, List.length_nil] at r0_
              have hlen_ := n_len (w := wr.drew) ⟨HE9.out.n.rep.blk.drew, HE9.out.n.rep.own, HE9.out.n.rep.bytes⟩
              have hbn_ : (((((L ++ [(mm, v8)])).length : Nat) : Int) != ((((L ++ [(mm, v8)])).length : Nat) : Int)) = false := by simp
              clear evr_ hml_
              refine start_ (n := 12) (S := fun w' => w'.cell? ⟨g, 0, none⟩ = some (.slice ar_ ((L ++ [(mm, v8)])).length cr_)) (ds := []) #[false, false, false, false, false, false, false, false, false, false, false, false] (by kernel_rfl) rfl rfl (r0_) (fun hHeld => ?_)
              refine pure_ (i := 0) (N := some 199) (v := ?_) (a' := ?_) #[true, false, false, false, false, false, false, false, false, false, false, false] rfl rfl (by kernel_rfl) (fun _ _ _ h => h) (Or.inl ⟨by rfl, ?_⟩) ?_ ?_
              rotate_left
              · intro w'
                go_simp
                with_reducible rfl
              rotate_left
              · simp only [Act.put, List.setIfInBounds_toArray, List.set_cons_zero, List.set_cons_succ, i64_w, i32_w]
                rfl
              refine pure_ (i := 1) (N := some 200) (v := ?_) (a' := ?_) #[true, true, false, false, false, false, false, false, false, false, false, false] rfl rfl (by kernel_rfl) (fun _ _ _ h => h) (Or.inl ⟨by rfl, ?_⟩) ?_ ?_
              rotate_left
              · intro w'
                go_simp
                with_reducible rfl
              rotate_left
              · simp only [Act.put, List.setIfInBounds_toArray, List.set_cons_zero, List.set_cons_succ, i64_w, i32_w]
                rfl
              refine pure_ (i := 2) (N := some 201) (v := ?_) (a' := ?_) #[true, true, true, false, false, false, false, false, false, false, false, false] rfl rfl (by kernel_rfl) (fun _ _ _ h => h) (Or.inl ⟨by rfl, ?_⟩) ?_ ?_
              rotate_left
              · intro w'
                go_simp
                with_reducible rfl
              rotate_left
              · simp only [Act.put, List.setIfInBounds_toArray, List.set_cons_zero, List.set_cons_succ, i64_w, i32_w]
                rfl
              refine pure_ (i := 3) (N := some 202) (v := ?_) (a' := ?_) #[true, true, true, true, false, false, false, false, false, false, false, false] rfl rfl (by kernel_rfl) (fun _ _ _ h => h) (Or.inl ⟨by rfl, ?_⟩) ?_ ?_
              rotate_left
              · intro w'
                go_simp
                with_reducible rfl
              rotate_left
              · simp only [Act.put, List.setIfInBounds_toArray, List.set_cons_zero, List.set_cons_succ, i64_w, i32_w]
                rfl
              refine pure_ (i := 5) (N := some 204) (v := ?_) (a' := ?_) #[true, true, true, true, false, true, false, false, false, false, false, false] rfl rfl (by kernel_rfl) (fun _ _ _ h => h) (Or.inl ⟨by rfl, ?_⟩) ?_ ?_
              rotate_left
              · intro w'
                go_simp
                with_reducible rfl
              rotate_left
              · simp only [Act.put, List.setIfInBounds_toArray, List.set_cons_zero, List.set_cons_succ, i64_w, i32_w]
                rfl
              refine pure_ (i := 6) (N := some 205) (v := ?_) (a' := ?_) #[true, true, true, true, false, true, true, false, false, false, false, false] rfl rfl (by kernel_rfl) (fun _ _ _ h => h) (Or.inl ⟨by rfl, ?_⟩) ?_ ?_
              rotate_left
              · intro w'
                go_simp
                with_reducible rfl
              rotate_left
              · simp only [Act.put, List.setIfInBounds_toArray, List.set_cons_zero, List.set_cons_succ, i64_w, i32_w]
                rfl
              refine pure_ (i := 7) (N := some 206) (v := ?_) (a' := ?_) #[true, true, true, true, false, true, true, true, false, false, false, false] rfl rfl (by kernel_rfl) (fun _ _ _ h => h) (Or.inl ⟨by rfl, ?_⟩) ?_ ?_
              rotate_left
              · intro w'
                go_simp
                with_reducible rfl
              rotate_left
              · simp only [Act.put, List.setIfInBounds_toArray, List.set_cons_zero, List.set_cons_succ, i64_w, i32_w]
                rfl
              refine take_ (i := 8) (N := some 207) (v := ?_) (a' := ?_) #[true, true, true, true, false, true, true, true, true, false, false, false] rfl rfl (by kernel_rfl) (fun _ _ _ h => h) (Or.inl ⟨by rfl, ?_⟩) hHeld ?_ ?_
              rotate_left
              · intro w' s0
                go_simp
                with_reducible rfl
              rotate_left
              · simp only [Act.put, List.setIfInBounds_toArray, List.set_cons_zero, List.set_cons_succ, i64_w, i32_w]
                rfl
              refine pure_ (i := 9) (N := some 208) (v := ?_) (a' := ?_) #[true, true, true, true, false, true, true, true, true, true, false, false] rfl rfl (by kernel_rfl) (fun _ _ _ h => h) (Or.inl ⟨by rfl, ?_⟩) ?_ ?_
              rotate_left
              · intro w'
                go_simp
                with_reducible rfl
              rotate_left
              · simp only [Act.put, List.setIfInBounds_toArray, List.set_cons_zero, List.set_cons_succ, i64_w, i32_w]
                rfl
              refine one_ (i := 4) (N := some 203) #[true, true, true, true, true, true, true, true, true, true, false, false] rfl rfl (by kernel_rfl) (by decide) (fun K hK => ?_)
              refine goes_ Try.func31 (by kernel_rfl) rfl #[.pointer (some ⟨b, 0, none⟩)] (by rfl) rfl rfl (by simp only [List.map_toArray, List.map_cons, List.map_nil]; rfl) ?_
              with_reducible refine (hlen_).mono ?_
              rintro e w9 ⟨rfl, rfl⟩
              refine ⟨_, rfl, ?_⟩
              try clear hHeld
              refine hK.out _ _ (r0_) (fun hHeld => ?_)
              clear hK K
              refine norm_ (a' := ?_) ?_ ?_
              rotate_left
              · show Act.put _ (some 203) _ = _
                simp only [Act.put, List.setIfInBounds_toArray, List.set_cons_zero, List.set_cons_succ, i64_w, i32_w]
                rfl
              refine pure_ (i := 10) (N := some 209) (v := ?_) (a' := ?_) #[true, true, true, true, true, true, true, true, true, true, true, false] rfl rfl (by kernel_rfl) (fun _ _ _ h => h) (Or.inl ⟨by rfl, ?_⟩) ?_ ?_
              rotate_left
              · intro w'
                go_simp
                with_reducible rfl
              rotate_left
              · simp only [Act.put, List.setIfInBounds_toArray, List.set_cons_zero, List.set_cons_succ, i64_w, i32_w]
                rfl
              refine pure_ (i := 11) (N := some 210) (v := ?_) (a' := ?_) #[true, true, true, true, true, true, true, true, true, true, true, true] rfl rfl (by kernel_rfl) (fun _ _ _ h => h) (Or.inl ⟨by rfl, ?_⟩) ?_ ?_
              rotate_left
              · intro w'
                go_simp
                with_reducible rfl
              rotate_left
              · simp only [Act.put, List.setIfInBounds_toArray, List.set_cons_zero, List.set_cons_succ, i64_w, i32_w]
                rfl
              try clear hHeld
              refine done_ (by kernel_rfl) ?_
              clear r0_ hlen_
              go_wp2_with fail
              go_roundw
              case rel => exact ⟨i + 1, _, _, _, _, by omega, by go_num, by simp; omega, HE9.out.below (Below.refl _ _).drew, hlm_⟩
              case measure => simp [intOf]; omega
        · skip
          have e0 : (kd == 0) = false := by rw [hk]; decide
          have e1 : (kd == 1) = true := by simp [hk]
          have e2 : (kd == 2) = false := by rw [hk]; decide
          have e3 : (kd == 3) = false := by rw [hk]; decide
          have e4 : (kd == 4) = false := by rw [hk]; decide
          obtain ⟨mm, is, hat⟩ : ∃ mm is, atN (msgs L) ix = (mm, is) := ⟨_, _, rfl⟩
          have hat2 : atN (msgs M) ix = (mm, is) := by rw [← HLM.out]; exact hat
          have HAT2 := Lib.hid hat2
          clear hat2
          have hmb2 : mm.b.length ≤ 300 := by
            by_cases hin : 0 ≤ ix ∧ ix < (L.length : Int)
            · obtain ⟨m', h1, h2, -⟩ := atN_in hin HNE.out.n.len
              rw [hat] at h1; injection h1 with h1; rw [h1]; exact h2
            · have h1 := atN_out hin
              rw [hat] at h1; injection h1 with h1; rw [h1]; simp [noMsg]
          have hA := n_at HNE.out.n.rep ix HNE.out.n.l44 hL30
          rw [hat] at hA
          have HA := Lib.hid hA
          clear hA hat
          go_wp2_with (first
            | (go_at_call 23; refine HA.out.mono ?_; rintro e w5 ⟨v5, rfl, ho5, hf5, hb5⟩; obtain ⟨a3, c3, rfl⟩ := own_shape ho5; have hb6 := (Below.refl w5.heap.size w5).alloc (Nat.le_refl _) (.cells (msgB mm (.slice a3 mm.b.length c3)) 48); have hE6 := (HNE.out.below hb5).below hb6; have hA6 := Blk.new w5 (msgB mm (.slice a3 mm.b.length c3)) 48; have hO6 := own_below ho5 hb6; obtain ⟨-, c1, -⟩ := HCL.out _ hE6.n.bel; have hT := r_at hE6.r.rep ix hM30; rw [HAT2.out] at hT; have HT := Lib.hid hT; have s5 := hb5.size; have hsz6 : (w5.alloc (.cells (msgB mm (.slice a3 mm.b.length c3)) 48)).heap.size = w5.heap.size + 1 := (by simp); have HF5 := Lib.hid hf5; have HE6 := Lib.hid hE6; have HA6 := Lib.hid hA6; have HO6 := Lib.hid hO6; clear ho5 hf5 hb5 hb6 hE6 hA6 hO6 hT)
            | (go_at_call 24; refine HT.out.mono ?_; rintro e w7 ⟨rfl, hr7, hb7⟩; generalize valN M ix = vv at *; obtain ⟨a7, c7, rfl, -⟩ := id hr7; have hb8 := hb7.alloc hb7.size (.cells (msgB mm (.slice a7 mm.b.length c7)) 48); have hE8 := HE6.out.below hb8; have hA8 := HA6.out.below hb8 HA6.out.lt; have hO8 := own_below HO6.out hb8; have hR8 := hr7.below hb8 (Nat.le_refl _); have hC8 := Blk.new w7 (msgB mm (.slice a7 mm.b.length c7)) 48; have qa0 := hA8.cell 0; have qa1 := hA8.cell 1; have qa2 := hA8.cell 2; have qa3 := hA8.cell 3; have qa4 := hA8.cell 4; simp at qa0 qa1 qa2 qa3 qa4;  have qc0 := hC8.cell 0; have qc1 := hC8.cell 1; have qc2 := hC8.cell 2; have qc3 := hC8.cell 3; have qc4 := hC8.cell 4; simp at qc0 qc1 qc2 qc3 qc4;  have s7 := hb7.size; have m8 : w7.heap.size ≠ w5.heap.size := (by omega); have m9 : w5.heap.size ≠ w7.heap.size := (by omega); have HSM := Lib.hid (r_same mm mm (own_rb hO8) hR8); have HE8 := Lib.hid hE8; have HA8 := Lib.hid hA8; have HO8 := Lib.hid hO8; clear hr7 hb7 hb8 hE8 hA8 hO8 hR8 hC8 c1)
            | (go_at_call 25; refine HSM.out.mono ?_; rintro e w9 ⟨r, rfl, hr, hb9⟩; obtain rfl := hr (by first | rfl | trivial); have hE9 := HE8.out.below hb9; have hA9 := HA8.out.below hb9 HA8.out.lt; have hO9 := own_below HO8.out hb9; have HE9 := Lib.hid hE9; have HA9 := Lib.hid hA9; have HO9 := Lib.hid hO9; clear hr hb9 hE9 hA9 hO9 qa0 qa1 qa2 qa3 qa4 qc0 qc1 qc2 qc3 qc4))
          have H7 : Hid (Own7 w w9 b g vl vr L M w5.heap.size mm (.slice a3 mm.b.length c3)) := Lib.hid (by
            refine ⟨HE9.out, HA9.out, ⟨mm.b, rfl, HO9.out⟩, fun k hk => ?_⟩
            have h1 := HF5.out k hk
            have h3 := HNE.out.n.bel.size
            exact ⟨by omega, fun e => by have := HNE.out.n.rep.lt e; omega, fun e => by have := HNE.out.r.rep.lt e; omega⟩)
          clear HE9 HA9 HO9 HE8 HA8 HO8 HE6 HA6 HO6 HF5 HA HT HSM
          go_loopw [16] (fun kv wq => ∃ k : Nat, k ≤ mm.b.length ∧ kv = .int .i64 k ∧ Own7 w wq b g vl vr L M w5.heap.size mm (.slice a3 mm.b.length c3)) (fun kv _ => mm.b.length - (intOf kv).toNat)
          case atStart => exact ⟨0, by omega, rfl, H7.out⟩
          case round =>
            obtain ⟨k, hk7, rfl, hO7⟩ := hrel
            clear H7
            by_cases hk8 : k < mm.b.length
            · obtain ⟨ys, hys, hoy⟩ := hO7.own
              obtain ⟨q, c3', e3, -, -⟩ := own_open hoy (by omega)
              injection e3 with e3 _ e4
              subst e3 e4
              have b4 := hO7.box.cell 4
              simp at b4
              have y0 := (World.ownsRow.cellAt hoy k (by omega)).trans (byt_get ys k (by omega))
              have fy := World.ownsRow.frozenAt hoy k
              have d7 : decide ((k : Int) < (mm.b.length : Int)) = true := decide_eq_true (by omega)
              have k1 : (0 : Int) ≤ (k : Int) := by omega
              have k2 : (k : Int) < (mm.b.length : Int) := by omega
              have i64q : IntKind.i64.wrap ((k : Int) + 1) = (k : Int) + 1 := IntWalk.i64_in _ (by omega)
              have HO7 := Lib.hid hO7
              clear hO7 hoy hys
              go_wp2_with fail
              go_roundw
              case rel => exact ⟨k + 1, by omega, by go_num, HO7.out.set k⟩
              case measure => simp [intOf]; omega
            · have hk9 : k = mm.b.length := by omega
              clear hk7
              rw [hk9] at *
              have d7 : decide ((mm.b.length : Int) < (mm.b.length : Int)) = false := decide_eq_false (by omega)
              have b4 := hO7.box.cell 4
              simp at b4
              have HE9 := Lib.hid hO7.e
              clear hO7
              go_wp2_with fail
              have hlm_ := HLM.out
              have hml_ := msgs_len hlm_
              obtain ⟨ar_, cr_, evr_⟩ := own_shape HE9.out.r.rep.own
              have r0_ := HE9.out.r.rep.blk.cell 0
              rw [evr_, hml_] at r0_
              simp only [List.getElem?_toArray, List.length_cons, List.length_nil] at r0_
              have hlen_ := n_len (w := wr.drew) ⟨HE9.out.n.rep.blk.drew, HE9.out.n.rep.own, HE9.out.n.rep.bytes⟩
              have hbn_ : ((((L).length : Nat) : Int) != (((L).length : Nat) : Int)) = false := by simp
              clear evr_ hml_
              refine start_ (n := 12) (S := fun w' => w'.cell? ⟨g, 0, none⟩ = some (.slice ar_ (L).length cr_)) (ds := []) #[false, false, false, false, false, false, false, false, false, false, false, false] (by kernel_rfl) rfl rfl (r0_) (fun hHeld => ?_)
              refine pure_ (i := 0) (N := some 199) (v := ?_) (a' := ?_) #[true, false, false, false, false, false, false, false, false, false, false, false] rfl rfl (by kernel_rfl) (fun _ _ _ h => h) (Or.inl ⟨by rfl, ?_⟩) ?_ ?_
              rotate_left
              · intro w'
                go_simp
                with_reducible rfl
              rotate_left
              · simp only [Act.put, List.setIfInBounds_toArray, List.set_cons_zero, List.set_cons_succ, i64_w, i32_w]
                rfl
              refine pure_ (i := 1) (N := some 200) (v := ?_) (a' := ?_) #[true, true, false, false, false, false, false, false, false, false, false, false] rfl rfl (by kernel_rfl) (fun _ _ _ h => h) (Or.inl ⟨by rfl, ?_⟩) ?_ ?_
              rotate_left
              · intro w'
                go_simp
                with_reducible rfl
              rotate_left
              · simp only [Act.put, List.setIfInBounds_toArray, List.set_cons_zero, List.set_cons_succ, i64_w, i32_w]
                rfl
              refine pure_ (i := 2) (N := some 201) (v := ?_) (a' := ?_) #[true, true, true, false, false, false, false, false, false, false, false, false] rfl rfl (by kernel_rfl) (fun _ _ _ h => h) (Or.inl ⟨by rfl, ?_⟩) ?_ ?_
              rotate_left
              · intro w'
                go_simp
                with_reducible rfl
              rotate_left
              · simp only [Act.put, List.setIfInBounds_toArray, List.set_cons_zero, List.set_cons_succ, i64_w, i32_w]
                rfl
              refine pure_ (i := 3) (N := some 202) (v := ?_) (a' := ?_) #[true, true, true, true, false, false, false, false, false, false, false, false] rfl rfl (by kernel_rfl) (fun _ _ _ h => h) (Or.inl ⟨by rfl, ?_⟩) ?_ ?_
              rotate_left
              · intro w'
                go_simp
                with_reducible rfl
              rotate_left
              · simp only [Act.put, List.setIfInBounds_toArray, List.set_cons_zero, List.set_cons_succ, i64_w, i32_w]
                rfl
              refine pure_ (i := 5) (N := some 204) (v := ?_) (a' := ?_) #[true, true, true, true, false, true, false, false, false, false, false, false] rfl rfl (by kernel_rfl) (fun _ _ _ h => h) (Or.inl ⟨by rfl, ?_⟩) ?_ ?_
              rotate_left
              · intro w'
                go_simp
                with_reducible rfl
              rotate_left
              · simp only [Act.put, List.setIfInBounds_toArray, List.set_cons_zero, List.set_cons_succ, i64_w, i32_w]
                rfl
              refine pure_ (i := 6) (N := some 205) (v := ?_) (a' := ?_) #[true, true, true, true, false, true, true, false, false, false, false, false] rfl rfl (by kernel_rfl) (fun _ _ _ h => h) (Or.inl ⟨by rfl, ?_⟩) ?_ ?_
              rotate_left
              · intro w'
                go_simp
                with_reducible rfl
              rotate_left
              · simp only [Act.put, List.setIfInBounds_toArray, List.set_cons_zero, List.set_cons_succ, i64_w, i32_w]
                rfl
              refine pure_ (i := 7) (N := some 206) (v := ?_) (a' := ?_) #[true, true, true, true, false, true, true, true, false, false, false, false] rfl rfl (by kernel_rfl) (fun _ _ _ h => h) (Or.inl ⟨by rfl, ?_⟩) ?_ ?_
              rotate_left
              · intro w'
                go_simp
                with_reducible rfl
              rotate_left
              · simp only [Act.put, List.setIfInBounds_toArray, List.set_cons_zero, List.set_cons_succ, i64_w, i32_w]
                rfl
              refine take_ (i := 8) (N := some 207) (v := ?_) (a' := ?_) #[true, true, true, true, false, true, true, true, true, false, false, false] rfl rfl (by kernel_rfl) (fun _ _ _ h => h) (Or.inl ⟨by rfl, ?_⟩) hHeld ?_ ?_
              rotate_left
              · intro w' s0
                go_simp
                with_reducible rfl
              rotate_left
              · simp only [Act.put, List.setIfInBounds_toArray, List.set_cons_zero, List.set_cons_succ, i64_w, i32_w]
                rfl
              refine pure_ (i := 9) (N := some 208) (v := ?_) (a' := ?_) #[true, true, true, true, false, true, true, true, true, true, false, false] rfl rfl (by kernel_rfl) (fun _ _ _ h => h) (Or.inl ⟨by rfl, ?_⟩) ?_ ?_
              rotate_left
              · intro w'
                go_simp
                with_reducible rfl
              rotate_left
              · simp only [Act.put, List.setIfInBounds_toArray, List.set_cons_zero, List.set_cons_succ, i64_w, i32_w]
                rfl
              refine one_ (i := 4) (N := some 203) #[true, true, true, true, true, true, true, true, true, true, false, false] rfl rfl (by kernel_rfl) (by decide) (fun K hK => ?_)
              refine goes_ Try.func31 (by kernel_rfl) rfl #[.pointer (some ⟨b, 0, none⟩)] (by rfl) rfl rfl (by simp only [List.map_toArray, List.map_cons, List.map_nil]; rfl) ?_
              with_reducible refine (hlen_).mono ?_
              rintro e w9 ⟨rfl, rfl⟩
              refine ⟨_, rfl, ?_⟩
              try clear hHeld
              refine hK.out _ _ (r0_) (fun hHeld => ?_)
              clear hK K
              refine norm_ (a' := ?_) ?_ ?_
              rotate_left
              · show Act.put _ (some 203) _ = _
                simp only [Act.put, List.setIfInBounds_toArray, List.set_cons_zero, List.set_cons_succ, i64_w, i32_w]
                rfl
              refine pure_ (i := 10) (N := some 209) (v := ?_) (a' := ?_) #[true, true, true, true, true, true, true, true, true, true, true, false] rfl rfl (by kernel_rfl) (fun _ _ _ h => h) (Or.inl ⟨by rfl, ?_⟩) ?_ ?_
              rotate_left
              · intro w'
                go_simp
                with_reducible rfl
              rotate_left
              · simp only [Act.put, List.setIfInBounds_toArray, List.set_cons_zero, List.set_cons_succ, i64_w, i32_w]
                rfl
              refine pure_ (i := 11) (N := some 210) (v := ?_) (a' := ?_) #[true, true, true, true, true, true, true, true, true, true, true, true] rfl rfl (by kernel_rfl) (fun _ _ _ h => h) (Or.inl ⟨by rfl, ?_⟩) ?_ ?_
              rotate_left
              · intro w'
                go_simp
                with_reducible rfl
              rotate_left
              · simp only [Act.put, List.setIfInBounds_toArray, List.set_cons_zero, List.set_cons_succ, i64_w, i32_w]
                rfl
              try clear hHeld
              refine done_ (by kernel_rfl) ?_
              clear r0_ hlen_
              go_wp2_with fail
              go_roundw
              case rel => exact ⟨i + 1, _, _, _, _, by omega, by go_num, by omega, HE9.out.below (Below.refl _ _).drew, hlm_⟩
              case measure => simp [intOf]; omega
        · skip
          have e0 : (kd == 0) = false := by rw [hk]; decide
          have e1 : (kd == 1) = false := by rw [hk]; decide
          have e2 : (kd == 2) = true := by simp [hk]
          have e3 : (kd == 3) = false := by rw [hk]; decide
          have e4 : (kd == 4) = false := by rw [hk]; decide
          obtain ⟨mm, is, hat⟩ : ∃ mm is, atN (msgs L) ix = (mm, is) := ⟨_, _, rfl⟩
          have hat2 : atN (msgs M) ix = (mm, is) := by rw [← HLM.out]; exact hat
          have HAT2 := Lib.hid hat2
          clear hat2
          have hmb2 : mm.b.length ≤ 300 := by
            by_cases hin : 0 ≤ ix ∧ ix < (L.length : Int)
            · obtain ⟨m', h1, h2, -⟩ := atN_in hin HNE.out.n.len
              rw [hat] at h1; injection h1 with h1; rw [h1]; exact h2
            · have h1 := atN_out hin
              rw [hat] at h1; injection h1 with h1; rw [h1]; simp [noMsg]
          have hA := n_take HNE.out.n.rep ix HNE.out.n.l44 hL30
          unfold TakeP at hA
          rw [hat] at hA
          have HA := Lib.hid hA
          clear hA hat
          go_wp2_with (first
            | (go_at_call 26; refine HA.out.mono ?_; rintro e w5 ⟨v5, rfl, ho5, hP5⟩; obtain ⟨vl5, hE5, -, hk5⟩ := HNE.out.postN hP5 (fun x hx => HNE.out.n.len x (takeN_sub x hx)); obtain ⟨a3, c3, rfl⟩ := own_shape ho5; have hb6 := (Below.refl w5.heap.size w5).alloc (Nat.le_refl _) (.cells (msgB mm (.slice a3 mm.b.length c3)) 48); have hE6 := hE5.below hb6; have hA6 := Blk.new w5 (msgB mm (.slice a3 mm.b.length c3)) 48; have hO6 := own_below ho5 hb6; obtain ⟨-, c1, -⟩ := HCL.out _ hE6.n.bel; have hT := r_take hE6.r.rep ix hM30; unfold TakeP at hT; rw [HAT2.out] at hT; have HT := Lib.hid hT; have s5 := hk5.size; have hsz6 : (w5.alloc (.cells (msgB mm (.slice a3 mm.b.length c3)) 48)).heap.size = w5.heap.size + 1 := (by simp); have HE6 := Lib.hid hE6; have HA6 := Lib.hid hA6; have HO6 := Lib.hid hO6; clear ho5 hP5 hE5 hk5 hb6 hE6 hA6 hO6 hT)
            | (go_at_call 27; refine HT.out.mono ?_; rintro e w7 ⟨v7, rfl, ho7, hP7⟩; obtain ⟨vr7, hE7, -, hk7⟩ := HE6.out.postR hP7 (fun x hx => HE6.out.r.len x (takeN_sub x hx)); obtain ⟨a7, c7, rfl⟩ := own_shape ho7; have hb8 := (Below.refl w7.heap.size w7).alloc (Nat.le_refl _) (.cells (msgB mm (.slice a7 mm.b.length c7)) 48); have hE8 := hE7.below hb8; have hA7 := HA6.out.keeps hk7 (fun e => e.elim (fun e => blk_ne HE6.out.r.rep.blk HA6.out (by decide) e.symm) (fun e => by have := own_lt HNE.out.r.rep.own e; omega)); have hO7 := own_keeps HO6.out hk7 (fun k hk e => e.elim (fun e => own_blk_ne HO6.out HE6.out.r.rep.blk (by decide) (e ▸ hk)) (fun e => own_type_ne HO6.out HE6.out.r.rep.own (by decide) hk e)); have hA8 := hA7.below hb8 hA7.lt; have hO8 := own_below hO7 hb8; have hR8 := own_below ho7 hb8; have hC8 := Blk.new w7 (msgB mm (.slice a7 mm.b.length c7)) 48; have qa0 := hA8.cell 0; have qa1 := hA8.cell 1; have qa2 := hA8.cell 2; have qa3 := hA8.cell 3; have qa4 := hA8.cell 4; simp at qa0 qa1 qa2 qa3 qa4;  have qc0 := hC8.cell 0; have qc1 := hC8.cell 1; have qc2 := hC8.cell 2; have qc3 := hC8.cell 3; have qc4 := hC8.cell 4; simp at qc0 qc1 qc2 qc3 qc4;  have s7 := hk7.size; have m8 : w7.heap.size ≠ w5.heap.size := (by omega); have m9 : w5.heap.size ≠ w7.heap.size := (by omega); have HSM := Lib.hid (r_same mm mm (own_rb hO8) (own_rb hR8)); have HE8 := Lib.hid hE8; clear ho7 hP7 hE7 hk7 hb8 hE8 hA7 hO7 hA8 hO8 hR8 hC8 c1)
            | (go_at_call 25; refine HSM.out.mono ?_; rintro e w9 ⟨r, rfl, hr, hb9⟩; obtain rfl := hr (by first | rfl | trivial); have hE9 := HE8.out.below hb9; have HE9 := Lib.hid hE9; clear hr hb9 hE9 qa0 qa1 qa2 qa3 qa4 qc0 qc1 qc2 qc3 qc4))
          have hlm_ := (by rw [msgs_take, msgs_take, HLM.out] : msgs (takeN L ix) = msgs (takeN M ix))
          have hml_ := msgs_len hlm_
          obtain ⟨ar_, cr_, evr_⟩ := own_shape HE9.out.r.rep.own
          have r0_ := HE9.out.r.rep.blk.cell 0
          rw [evr_, hml_] at r0_
          simp only [List.getElem?_toArray, List.length_cons, List.length_nil] at r0_
          have hlen_ := n_len (w := w9.drew) ⟨HE9.out.n.rep.blk.drew, HE9.out.n.rep.own, HE9.out.n.rep.bytes⟩
          have hbn_ : (((((takeN L ix)).length : Nat) : Int) != ((((takeN L ix)).length : Nat) : Int)) = false := by simp
          clear evr_ hml_
          refine start_ (n := 12) (S := fun w' => w'.cell? ⟨g, 0, none⟩ = some (.slice ar_ ((takeN L ix)).length cr_)) (ds := []) #[false, false, false, false, false, false, false, false, false, false, false, false] (by kernel_rfl) rfl rfl (r0_) (fun hHeld => ?_)
          refine pure_ (i := 0) (N := some 199) (v := ?_) (a' := ?_) #[true, false, false, false, false, false, false, false, false, false, false, false] rfl rfl (by kernel_rfl) (fun _ _ _ h => h) (Or.inl ⟨by rfl, ?_⟩) ?_ ?_
          rotate_left
          · intro w'
            go_simp
            with_reducible rfl
          rotate_left
          · simp only [Act.put, List.setIfInBounds_toArray, List.set_cons_zero, List.set_cons_succ, i64_w, i32_w]
            rfl
          refine pure_ (i := 1) (N := some 200) (v := ?_) (a' := ?_) #[true, true, false, false, false, false, false, false, false, false, false, false] rfl rfl (by kernel_rfl) (fun _ _ _ h => h) (Or.inl ⟨by rfl, ?_⟩) ?_ ?_
          rotate_left
          · intro w'
            go_simp
            with_reducible rfl
          rotate_left
          · simp only [Act.put, List.setIfInBounds_toArray, List.set_cons_zero, List.set_cons_succ, i64_w, i32_w]
            rfl
          refine pure_ (i := 2) (N := some 201) (v := ?_) (a' := ?_) #[true, true, true, false, false, false, false, false, false, false, false, false] rfl rfl (by kernel_rfl) (fun _ _ _ h => h) (Or.inl ⟨by rfl, ?_⟩) ?_ ?_
          rotate_left
          · intro w'
            go_simp
            with_reducible rfl
          rotate_left
          · simp only [Act.put, List.setIfInBounds_toArray, List.set_cons_zero, List.set_cons_succ, i64_w, i32_w]
            rfl
          refine pure_ (i := 3) (N := some 202) (v := ?_) (a' := ?_) #[true, true, true, true, false, false, false, false, false, false, false, false] rfl rfl (by kernel_rfl) (fun _ _ _ h => h) (Or.inl ⟨by rfl, ?_⟩) ?_ ?_
          rotate_left
          · intro w'
            go_simp
            with_reducible rfl
          rotate_left
          · simp only [Act.put, List.setIfInBounds_toArray, List.set_cons_zero, List.set_cons_succ, i64_w, i32_w]
            rfl
          refine pure_ (i := 5) (N := some 204) (v := ?_) (a' := ?_) #[true, true, true, true, false, true, false, false, false, false, false, false] rfl rfl (by kernel_rfl) (fun _ _ _ h => h) (Or.inl ⟨by rfl, ?_⟩) ?_ ?_
          rotate_left
          · intro w'
            go_simp
            with_reducible rfl
          rotate_left
          · simp only [Act.put, List.setIfInBounds_toArray, List.set_cons_zero, List.set_cons_succ, i64_w, i32_w]
            rfl
          refine pure_ (i := 6) (N := some 205) (v := ?_) (a' := ?_) #[true, true, true, true, false, true, true, false, false, false, false, false] rfl rfl (by kernel_rfl) (fun _ _ _ h => h) (Or.inl ⟨by rfl, ?_⟩) ?_ ?_
          rotate_left
          · intro w'
            go_simp
            with_reducible rfl
          rotate_left
          · simp only [Act.put, List.setIfInBounds_toArray, List.set_cons_zero, List.set_cons_succ, i64_w, i32_w]
            rfl
          refine pure_ (i := 7) (N := some 206) (v := ?_) (a' := ?_) #[true, true, true, true, false, true, true, true, false, false, false, false] rfl rfl (by kernel_rfl) (fun _ _ _ h => h) (Or.inl ⟨by rfl, ?_⟩) ?_ ?_
          rotate_left
          · intro w'
            go_simp
            with_reducible rfl
          rotate_left
          · simp only [Act.put, List.setIfInBounds_toArray, List.set_cons_zero, List.set_cons_succ, i64_w, i32_w]
            rfl
          refine take_ (i := 8) (N := some 207) (v := ?_) (a' := ?_) #[true, true, true, true, false, true, true, true, true, false, false, false] rfl rfl (by kernel_rfl) (fun _ _ _ h => h) (Or.inl ⟨by rfl, ?_⟩) hHeld ?_ ?_
          rotate_left
          · intro w' s0
            go_simp
            with_reducible rfl
          rotate_left
          · simp only [Act.put, List.setIfInBounds_toArray, List.set_cons_zero, List.set_cons_succ, i64_w, i32_w]
            rfl
          refine pure_ (i := 9) (N := some 208) (v := ?_) (a' := ?_) #[true, true, true, true, false, true, true, true, true, true, false, false] rfl rfl (by kernel_rfl) (fun _ _ _ h => h) (Or.inl ⟨by rfl, ?_⟩) ?_ ?_
          rotate_left
          · intro w'
            go_simp
            with_reducible rfl
          rotate_left
          · simp only [Act.put, List.setIfInBounds_toArray, List.set_cons_zero, List.set_cons_succ, i64_w, i32_w]
            rfl
          refine one_ (i := 4) (N := some 203) #[true, true, true, true, true, true, true, true, true, true, false, false] rfl rfl (by kernel_rfl) (by decide) (fun K hK => ?_)
          refine goes_ Try.func31 (by kernel_rfl) rfl #[.pointer (some ⟨b, 0, none⟩)] (by rfl) rfl rfl (by simp only [List.map_toArray, List.map_cons, List.map_nil]; rfl) ?_
          with_reducible refine (hlen_).mono ?_
          rintro e w9 ⟨rfl, rfl⟩
          refine ⟨_, rfl, ?_⟩
          try clear hHeld
          refine hK.out _ _ (r0_) (fun hHeld => ?_)
          clear hK K
          refine norm_ (a' := ?_) ?_ ?_
          rotate_left
          · show Act.put _ (some 203) _ = _
            simp only [Act.put, List.setIfInBounds_toArray, List.set_cons_zero, List.set_cons_succ, i64_w, i32_w]
            rfl
          refine pure_ (i := 10) (N := some 209) (v := ?_) (a' := ?_) #[true, true, true, true, true, true, true, true, true, true, true, false] rfl rfl (by kernel_rfl) (fun _ _ _ h => h) (Or.inl ⟨by rfl, ?_⟩) ?_ ?_
          rotate_left
          · intro w'
            go_simp
            with_reducible rfl
          rotate_left
          · simp only [Act.put, List.setIfInBounds_toArray, List.set_cons_zero, List.set_cons_succ, i64_w, i32_w]
            rfl
          refine pure_ (i := 11) (N := some 210) (v := ?_) (a' := ?_) #[true, true, true, true, true, true, true, true, true, true, true, true] rfl rfl (by kernel_rfl) (fun _ _ _ h => h) (Or.inl ⟨by rfl, ?_⟩) ?_ ?_
          rotate_left
          · intro w'
            go_simp
            with_reducible rfl
          rotate_left
          · simp only [Act.put, List.setIfInBounds_toArray, List.set_cons_zero, List.set_cons_succ, i64_w, i32_w]
            rfl
          try clear hHeld
          refine done_ (by kernel_rfl) ?_
          clear r0_ hlen_
          go_wp2_with fail
          go_roundw
          case rel => exact ⟨i + 1, _, _, _, _, by omega, by go_num, by have := takeN_le L ix; omega, HE9.out.below (Below.refl _ _).drew, hlm_⟩
          case measure => simp [intOf]; omega
        · skip
          have e0 : (kd == 0) = false := by rw [hk]; decide
          have e1 : (kd == 1) = false := by rw [hk]; decide
          have e2 : (kd == 2) = false := by rw [hk]; decide
          have e3 : (kd == 3) = false := by rw [hk]; decide
          have e4 : (kd == 4) = true := by simp [hk]
          obtain ⟨mm, is, hat⟩ : ∃ mm is, atN (msgs L) ix = (mm, is) := ⟨_, _, rfl⟩
          have hat2 : atN (msgs M) ix = (mm, is) := by rw [← HLM.out]; exact hat
          have HAT2 := Lib.hid hat2
          clear hat2
          have hmb2 : mm.b.length ≤ 300 := by
            by_cases hin : 0 ≤ ix ∧ ix < (L.length : Int)
            · obtain ⟨m', h1, h2, -⟩ := atN_in hin HNE.out.n.len
              rw [hat] at h1; injection h1 with h1; rw [h1]; exact h2
            · have h1 := atN_out hin
              rw [hat] at h1; injection h1 with h1; rw [h1]; simp [noMsg]
          have hA := n_double (w := wr.drew) ⟨HNE.out.n.rep.blk.drew, HNE.out.n.rep.own, HNE.out.n.rep.bytes⟩ ix HNE.out.n.l44 hL30
          rw [hat] at hA
          have HA := Lib.hid hA
          have hND : NetE w wr.drew b g vl vr L M := HNE.out.below (Below.refl _ _).drew
          have HND := Lib.hid hND
          clear hA hat hND c2 c3 c4 c5 c6
          go_wp2_with fail
          cases is with
          | true =>
            skip
            refine start_ (n := 16) (S := fun w' => w'.cell? ⟨bb, oo + i * 7 + 1, none⟩ = some (.int .i64 ix)) (ds := []) #[false, false, false, false, false, false, false, false, false, false, false, false, false, false, false, false] (by kernel_rfl) rfl rfl (c1) (fun hHeld => ?_)
            refine pure_ (i := 0) (N := some 184) (v := ?_) (a' := ?_) #[true, false, false, false, false, false, false, false, false, false, false, false, false, false, false, false] rfl rfl (by kernel_rfl) (fun _ _ _ h => h) (Or.inl ⟨by rfl, ?_⟩) ?_ ?_
            rotate_left
            · intro w'
              go_simp
              with_reducible rfl
            rotate_left
            · simp only [Act.put, List.setIfInBounds_toArray, List.set_cons_zero, List.set_cons_succ, i64_w, i32_w]
              rfl
            refine pure_ (i := 1) (N := some 185) (v := ?_) (a' := ?_) #[true, true, false, false, false, false, false, false, false, false, false, false, false, false, false, false] rfl rfl (by kernel_rfl) (fun _ _ _ h => h) (Or.inl ⟨by rfl, ?_⟩) ?_ ?_
            rotate_left
            · intro w'
              go_simp
              with_reducible rfl
            rotate_left
            · simp only [Act.put, List.setIfInBounds_toArray, List.set_cons_zero, List.set_cons_succ, i64_w, i32_w]
              rfl
            refine pure_ (i := 2) (N := some 186) (v := ?_) (a' := ?_) #[true, true, true, false, false, false, false, false, false, false, false, false, false, false, false, false] rfl rfl (by kernel_rfl) (fun _ _ _ h => h) (Or.inl ⟨by rfl, ?_⟩) ?_ ?_
            rotate_left
            · intro w'
              go_simp
              with_reducible rfl
            rotate_left
            · simp only [Act.put, List.setIfInBounds_toArray, List.set_cons_zero, List.set_cons_succ, i64_w, i32_w]
              rfl
            refine pure_ (i := 3) (N := some 187) (v := ?_) (a' := ?_) #[true, true, true, true, false, false, false, false, false, false, false, false, false, false, false, false] rfl rfl (by kernel_rfl) (fun _ _ _ h => h) (Or.inl ⟨by rfl, ?_⟩) ?_ ?_
            rotate_left
            · intro w'
              go_simp
              with_reducible rfl
            rotate_left
            · simp only [Act.put, List.setIfInBounds_toArray, List.set_cons_zero, List.set_cons_succ, i64_w, i32_w]
              rfl
            refine pure_ (i := 4) (N := some 188) (v := ?_) (a' := ?_) #[true, true, true, true, true, false, false, false, false, false, false, false, false, false, false, false] rfl rfl (by kernel_rfl) (fun _ _ _ h => h) (Or.inl ⟨by rfl, ?_⟩) ?_ ?_
            rotate_left
            · intro w'
              go_simp
              with_reducible rfl
            rotate_left
            · simp only [Act.put, List.setIfInBounds_toArray, List.set_cons_zero, List.set_cons_succ, i64_w, i32_w]
              rfl
            refine pure_ (i := 7) (N := some 191) (v := ?_) (a' := ?_) #[true, true, true, true, true, false, false, true, false, false, false, false, false, false, false, false] rfl rfl (by kernel_rfl) (fun _ _ _ h => h) (Or.inl ⟨by rfl, ?_⟩) ?_ ?_
            rotate_left
            · intro w'
              go_simp
              with_reducible rfl
            rotate_left
            · simp only [Act.put, List.setIfInBounds_toArray, List.set_cons_zero, List.set_cons_succ, i64_w, i32_w]
              rfl
            refine pure_ (i := 8) (N := some 192) (v := ?_) (a' := ?_) #[true, true, true, true, true, false, false, true, true, false, false, false, false, false, false, false] rfl rfl (by kernel_rfl) (fun _ _ _ h => h) (Or.inl ⟨by rfl, ?_⟩) ?_ ?_
            rotate_left
            · intro w'
              go_simp
              with_reducible rfl
            rotate_left
            · simp only [Act.put, List.setIfInBounds_toArray, List.set_cons_zero, List.set_cons_succ, i64_w, i32_w]
              rfl
            refine pure_ (i := 9) (N := some 193) (v := ?_) (a' := ?_) #[true, true, true, true, true, false, false, true, true, true, false, false, false, false, false, false] rfl rfl (by kernel_rfl) (fun _ _ _ h => h) (Or.inl ⟨by rfl, ?_⟩) ?_ ?_
            rotate_left
            · intro w'
              go_simp
              with_reducible rfl
            rotate_left
            · simp only [Act.put, List.setIfInBounds_toArray, List.set_cons_zero, List.set_cons_succ, i64_w, i32_w]
              rfl
            refine pure_ (i := 10) (N := some 194) (v := ?_) (a' := ?_) #[true, true, true, true, true, false, false, true, true, true, true, false, false, false, false, false] rfl rfl (by kernel_rfl) (fun _ _ _ h => h) (Or.inl ⟨by rfl, ?_⟩) ?_ ?_
            rotate_left
            · intro w'
              go_simp
              with_reducible rfl
            rotate_left
            · simp only [Act.put, List.setIfInBounds_toArray, List.set_cons_zero, List.set_cons_succ, i64_w, i32_w]
              rfl
            refine pure_ (i := 11) (N := some 195) (v := ?_) (a' := ?_) #[true, true, true, true, true, false, false, true, true, true, true, true, false, false, false, false] rfl rfl (by kernel_rfl) (fun _ _ _ h => h) (Or.inl ⟨by rfl, ?_⟩) ?_ ?_
            rotate_left
            · intro w'
              go_simp
              with_reducible rfl
            rotate_left
            · simp only [Act.put, List.setIfInBounds_toArray, List.set_cons_zero, List.set_cons_succ, i64_w, i32_w]
              rfl
            refine take_ (i := 5) (N := some 189) (v := ?_) (a' := ?_) #[true, true, true, true, true, true, false, true, true, true, true, true, false, false, false, false] rfl rfl (by kernel_rfl) (fun _ _ _ h => h) (Or.inl ⟨by rfl, ?_⟩) hHeld ?_ ?_
            rotate_left
            · intro w' s0
              go_simp
              with_reducible rfl
            rotate_left
            · simp only [Act.put, List.setIfInBounds_toArray, List.set_cons_zero, List.set_cons_succ, i64_w, i32_w]
              rfl
            refine take_ (i := 12) (N := some 196) (v := ?_) (a' := ?_) #[true, true, true, true, true, true, false, true, true, true, true, true, true, false, false, false] rfl rfl (by kernel_rfl) (fun _ _ _ h => h) (Or.inl ⟨by rfl, ?_⟩) hHeld ?_ ?_
            rotate_left
            · intro w' s0
              go_simp
              with_reducible rfl
            rotate_left
            · simp only [Act.put, List.setIfInBounds_toArray, List.set_cons_zero, List.set_cons_succ, i64_w, i32_w]
              rfl
            refine one_ (i := 6) (N := some 190) #[true, true, true, true, true, true, true, true, true, true, true, true, true, false, false, false] rfl rfl (by kernel_rfl) (by decide) (fun K hK => ?_)
            refine goes_ Try.func29 (by kernel_rfl) rfl #[.pointer (some ⟨b, 0, none⟩), .int .i64 ix] (by rfl) rfl rfl (by simp only [List.map_toArray, List.map_cons, List.map_nil]; rfl) ?_
            with_reducible refine (HA.out).mono ?_
            rintro e w5 ⟨rfl, hP5t, hP5f⟩
            refine ⟨_, rfl, ?_⟩
            obtain ⟨v5, -, hP5⟩ := hP5t rfl
            obtain ⟨vl5, hE5, -, -⟩ := HND.out.postN hP5 (len_app HND.out.n.len hmb2)
            have hT5 := r_double hE5.r.rep ix (fun x hx => by have := hE5.r.len x hx; omega) hM30
            rw [HAT2.out] at hT5
            have c15 := (HCL.out _ hE5.n.bel).2.1
            try clear hHeld
            refine hK.out _ _ (c15) (fun hHeld => ?_)
            clear hK K
            refine norm_ (a' := ?_) ?_ ?_
            rotate_left
            · show Act.put _ (some 190) _ = _
              simp only [Act.put, List.setIfInBounds_toArray, List.set_cons_zero, List.set_cons_succ, i64_w, i32_w]
              rfl
            refine one_ (i := 13) (N := some 197) #[true, true, true, true, true, true, true, true, true, true, true, true, true, true, false, false] rfl rfl (by kernel_rfl) (by decide) (fun K hK => ?_)
            refine goes_ Try.func30 (by kernel_rfl) rfl #[.pointer (some ⟨g, 0, none⟩), .int .i64 ix] (by rfl) rfl rfl (by simp only [List.map_toArray, List.map_cons, List.map_nil]; rfl) ?_
            with_reducible refine (hT5).mono ?_
            rintro e w6 ⟨rfl, hP6t, hP6f⟩
            refine ⟨_, rfl, ?_⟩
            obtain ⟨v6, -, hP6⟩ := hP6t rfl
            obtain ⟨vr6, hE6, -, -⟩ := hE5.postR hP6 (len_app hE5.r.len hmb2)
            have c16 := (HCL.out _ hE6.n.bel).2.1
            try clear hHeld
            refine hK.out _ _ (c16) (fun hHeld => ?_)
            clear hK K
            refine norm_ (a' := ?_) ?_ ?_
            rotate_left
            · show Act.put _ (some 197) _ = _
              simp only [Act.put, List.setIfInBounds_toArray, List.set_cons_zero, List.set_cons_succ, i64_w, i32_w]
              rfl
            refine pure_ (i := 14) (N := some 198) (v := ?_) (a' := ?_) #[true, true, true, true, true, true, true, true, true, true, true, true, true, true, true, false] rfl rfl (by kernel_rfl) (fun _ _ _ h => h) (Or.inl ⟨by rfl, ?_⟩) ?_ ?_
            rotate_left
            · intro w'
              go_simp
              with_reducible rfl
            rotate_left
            · simp only [Act.put, List.setIfInBounds_toArray, List.set_cons_zero, List.set_cons_succ, i64_w, i32_w]
              rfl
            refine pure_ (i := 15) (N := some 8) (v := ?_) (a' := ?_) #[true, true, true, true, true, true, true, true, true, true, true, true, true, true, true, true] rfl rfl (by kernel_rfl) (fun _ _ _ h => h) (Or.inl ⟨by rfl, ?_⟩) ?_ ?_
            rotate_left
            · intro w'
              go_simp
              with_reducible rfl
            rotate_left
            · simp only [Act.put, List.setIfInBounds_toArray, List.set_cons_zero, List.set_cons_succ, i64_w, i32_w]
              rfl
            try clear hHeld
            refine done_ (by kernel_rfl) ?_
            have HE6 := Lib.hid hE6
            clear hP5t hP5f hP5 hE5 hT5 hP6t hP6f hP6 hE6 c15 c16 c1
            go_wp2_with fail
            have hlm_ := (by rw [msgs_app, msgs_app, HLM.out] : msgs (L ++ [(mm, v5)]) = msgs (M ++ [(mm, v6)]))
            have hml_ := msgs_len hlm_
            obtain ⟨ar_, cr_, evr_⟩ := own_shape HE6.out.r.rep.own
            have r0_ := HE6.out.r.rep.blk.cell 0
            rw [evr_, hml_] at r0_
            simp only [List.getElem?_toArray, List.length_cons, List.length_nil] at r0_
            have hlen_ := n_len (w := w6.drew) ⟨HE6.out.n.rep.blk.drew, HE6.out.n.rep.own, HE6.out.n.rep.bytes⟩
            have hbn_ : (((((L ++ [(mm, v5)])).length : Nat) : Int) != ((((L ++ [(mm, v5)])).length : Nat) : Int)) = false := by simp
            clear evr_ hml_
            refine start_ (n := 12) (S := fun w' => w'.cell? ⟨g, 0, none⟩ = some (.slice ar_ ((L ++ [(mm, v5)])).length cr_)) (ds := []) #[false, false, false, false, false, false, false, false, false, false, false, false] (by kernel_rfl) rfl rfl (r0_) (fun hHeld => ?_)
            refine pure_ (i := 0) (N := some 199) (v := ?_) (a' := ?_) #[true, false, false, false, false, false, false, false, false, false, false, false] rfl rfl (by kernel_rfl) (fun _ _ _ h => h) (Or.inl ⟨by rfl, ?_⟩) ?_ ?_
            rotate_left
            · intro w'
              go_simp
              with_reducible rfl
            rotate_left
            · simp only [Act.put, List.setIfInBounds_toArray, List.set_cons_zero, List.set_cons_succ, i64_w, i32_w]
              rfl
            refine pure_ (i := 1) (N := some 200) (v := ?_) (a' := ?_) #[true, true, false, false, false, false, false, false, false, false, false, false] rfl rfl (by kernel_rfl) (fun _ _ _ h => h) (Or.inl ⟨by rfl, ?_⟩) ?_ ?_
            rotate_left
            · intro w'
              go_simp
              with_reducible rfl
            rotate_left
            · simp only [Act.put, List.setIfInBounds_toArray, List.set_cons_zero, List.set_cons_succ, i64_w, i32_w]
              rfl
            refine pure_ (i := 2) (N := some 201) (v := ?_) (a' := ?_) #[true, true, true, false, false, false, false, false, false, false, false, false] rfl rfl (by kernel_rfl) (fun _ _ _ h => h) (Or.inl ⟨by rfl, ?_⟩) ?_ ?_
            rotate_left
            · intro w'
              go_simp
              with_reducible rfl
            rotate_left
            · simp only [Act.put, List.setIfInBounds_toArray, List.set_cons_zero, List.set_cons_succ, i64_w, i32_w]
              rfl
            refine pure_ (i := 3) (N := some 202) (v := ?_) (a' := ?_) #[true, true, true, true, false, false, false, false, false, false, false, false] rfl rfl (by kernel_rfl) (fun _ _ _ h => h) (Or.inl ⟨by rfl, ?_⟩) ?_ ?_
            rotate_left
            · intro w'
              go_simp
              with_reducible rfl
            rotate_left
            · simp only [Act.put, List.setIfInBounds_toArray, List.set_cons_zero, List.set_cons_succ, i64_w, i32_w]
              rfl
            refine pure_ (i := 5) (N := some 204) (v := ?_) (a' := ?_) #[true, true, true, true, false, true, false, false, false, false, false, false] rfl rfl (by kernel_rfl) (fun _ _ _ h => h) (Or.inl ⟨by rfl, ?_⟩) ?_ ?_
            rotate_left
            · intro w'
              go_simp
              with_reducible rfl
            rotate_left
            · simp only [Act.put, List.setIfInBounds_toArray, List.set_cons_zero, List.set_cons_succ, i64_w, i32_w]
              rfl
            refine pure_ (i := 6) (N := some 205) (v := ?_) (a' := ?_) #[true, true, true, true, false, true, true, false, false, false, false, false] rfl rfl (by kernel_rfl) (fun _ _ _ h => h) (Or.inl ⟨by rfl, ?_⟩) ?_ ?_
            rotate_left
            · intro w'
              go_simp
              with_reducible rfl
            rotate_left
            · simp only [Act.put, List.setIfInBounds_toArray, List.set_cons_zero, List.set_cons_succ, i64_w, i32_w]
              rfl
            refine pure_ (i := 7) (N := some 206) (v := ?_) (a' := ?_) #[true, true, true, true, false, true, true, true, false, false, false, false] rfl rfl (by kernel_rfl) (fun _ _ _ h => h) (Or.inl ⟨by rfl, ?_⟩) ?_ ?_
            rotate_left
            · intro w'
              go_simp
              with_reducible rfl
            rotate_left
            · simp only [Act.put, List.setIfInBounds_toArray, List.set_cons_zero, List.set_cons_succ, i64_w, i32_w]
              rfl
            refine take_ (i := 8) (N := some 207) (v := ?_) (a' := ?_) #[true, true, true, true, false, true, true, true, true, false, false, false] rfl rfl (by kernel_rfl) (fun _ _ _ h => h) (Or.inl ⟨by rfl, ?_⟩) hHeld ?_ ?_
            rotate_left
            · intro w' s0
              go_simp
              with_reducible rfl
            rotate_left
            · simp only [Act.put, List.setIfInBounds_toArray, List.set_cons_zero, List.set_cons_succ, i64_w, i32_w]
              rfl
            refine pure_ (i := 9) (N := some 208) (v := ?_) (a' := ?_) #[true, true, true, true, false, true, true, true, true, true, false, false] rfl rfl (by kernel_rfl) (fun _ _ _ h => h) (Or.inl ⟨by rfl, ?_⟩) ?_ ?_
            rotate_left
            · intro w'
              go_simp
              with_reducible rfl
            rotate_left
            · simp only [Act.put, List.setIfInBounds_toArray, List.set_cons_zero, List.set_cons_succ, i64_w, i32_w]
              rfl
            refine one_ (i := 4) (N := some 203) #[true, true, true, true, true, true, true, true, true, true, false, false] rfl rfl (by kernel_rfl) (by decide) (fun K hK => ?_)
            refine goes_ Try.func31 (by kernel_rfl) rfl #[.pointer (some ⟨b, 0, none⟩)] (by rfl) rfl rfl (by simp only [List.map_toArray, List.map_cons, List.map_nil]; rfl) ?_
            with_reducible refine (hlen_).mono ?_
            rintro e w9 ⟨rfl, rfl⟩
            refine ⟨_, rfl, ?_⟩
            try clear hHeld
            refine hK.out _ _ (r0_) (fun hHeld => ?_)
            clear hK K
            refine norm_ (a' := ?_) ?_ ?_
            rotate_left
            · show Act.put _ (some 203) _ = _
              simp only [Act.put, List.setIfInBounds_toArray, List.set_cons_zero, List.set_cons_succ, i64_w, i32_w]
              rfl
            refine pure_ (i := 10) (N := some 209) (v := ?_) (a' := ?_) #[true, true, true, true, true, true, true, true, true, true, true, false] rfl rfl (by kernel_rfl) (fun _ _ _ h => h) (Or.inl ⟨by rfl, ?_⟩) ?_ ?_
            rotate_left
            · intro w'
              go_simp
              with_reducible rfl
            rotate_left
            · simp only [Act.put, List.setIfInBounds_toArray, List.set_cons_zero, List.set_cons_succ, i64_w, i32_w]
              rfl
            refine pure_ (i := 11) (N := some 210) (v := ?_) (a' := ?_) #[true, true, true, true, true, true, true, true, true, true, true, true] rfl rfl (by kernel_rfl) (fun _ _ _ h => h) (Or.inl ⟨by rfl, ?_⟩) ?_ ?_
            rotate_left
            · intro w'
              go_simp
              with_reducible rfl
            rotate_left
            · simp only [Act.put, List.setIfInBounds_toArray, List.set_cons_zero, List.set_cons_succ, i64_w, i32_w]
              rfl
            try clear hHeld
            refine done_ (by kernel_rfl) ?_
            clear r0_ hlen_
            go_wp2_with fail
            go_roundw
            case rel => exact ⟨i + 1, _, _, _, _, by omega, by go_num, by simp; omega, HE6.out.below (Below.refl _ _).drew, hlm_⟩
            case measure => simp [intOf]; omega
          | false =>
            skip
            refine start_ (n := 16) (S := fun w' => w'.cell? ⟨bb, oo + i * 7 + 1, none⟩ = some (.int .i64 ix)) (ds := []) #[false, false, false, false, false, false, false, false, false, false, false, false, false, false, false, false] (by kernel_rfl) rfl rfl (c1) (fun hHeld => ?_)
            refine pure_ (i := 0) (N := some 184) (v := ?_) (a' := ?_) #[true, false, false, false, false, false, false, false, false, false, false, false, false, false, false, false] rfl rfl (by kernel_rfl) (fun _ _ _ h => h) (Or.inl ⟨by rfl, ?_⟩) ?_ ?_
            rotate_left
            · intro w'
              go_simp
              with_reducible rfl
            rotate_left
            · simp only [Act.put, List.setIfInBounds_toArray, List.set_cons_zero, List.set_cons_succ, i64_w, i32_w]
              rfl
            refine pure_ (i := 1) (N := some 185) (v := ?_) (a' := ?_) #[true, true, false, false, false, false, false, false, false, false, false, false, false, false, false, false] rfl rfl (by kernel_rfl) (fun _ _ _ h => h) (Or.inl ⟨by rfl, ?_⟩) ?_ ?_
            rotate_left
            · intro w'
              go_simp
              with_reducible rfl
            rotate_left
            · simp only [Act.put, List.setIfInBounds_toArray, List.set_cons_zero, List.set_cons_succ, i64_w, i32_w]
              rfl
            refine pure_ (i := 2) (N := some 186) (v := ?_) (a' := ?_) #[true, true, true, false, false, false, false, false, false, false, false, false, false, false, false, false] rfl rfl (by kernel_rfl) (fun _ _ _ h => h) (Or.inl ⟨by rfl, ?_⟩) ?_ ?_
            rotate_left
            · intro w'
              go_simp
              with_reducible rfl
            rotate_left
            · simp only [Act.put, List.setIfInBounds_toArray, List.set_cons_zero, List.set_cons_succ, i64_w, i32_w]
              rfl
            refine pure_ (i := 3) (N := some 187) (v := ?_) (a' := ?_) #[true, true, true, true, false, false, false, false, false, false, false, false, false, false, false, false] rfl rfl (by kernel_rfl) (fun _ _ _ h => h) (Or.inl ⟨by rfl, ?_⟩) ?_ ?_
            rotate_left
            · intro w'
              go_simp
              with_reducible rfl
            rotate_left
            · simp only [Act.put, List.setIfInBounds_toArray, List.set_cons_zero, List.set_cons_succ, i64_w, i32_w]
              rfl
            refine pure_ (i := 4) (N := some 188) (v := ?_) (a' := ?_) #[true, true, true, true, true, false, false, false, false, false, false, false, false, false, false, false] rfl rfl (by kernel_rfl) (fun _ _ _ h => h) (Or.inl ⟨by rfl, ?_⟩) ?_ ?_
            rotate_left
            · intro w'
              go_simp
              with_reducible rfl
            rotate_left
            · simp only [Act.put, List.setIfInBounds_toArray, List.set_cons_zero, List.set_cons_succ, i64_w, i32_w]
              rfl
            refine pure_ (i := 7) (N := some 191) (v := ?_) (a' := ?_) #[true, true, true, true, true, false, false, true, false, false, false, false, false, false, false, false] rfl rfl (by kernel_rfl) (fun _ _ _ h => h) (Or.inl ⟨by rfl, ?_⟩) ?_ ?_
            rotate_left
            · intro w'
              go_simp
              with_reducible rfl
            rotate_left
            · simp only [Act.put, List.setIfInBounds_toArray, List.set_cons_zero, List.set_cons_succ, i64_w, i32_w]
              rfl
            refine pure_ (i := 8) (N := some 192) (v := ?_) (a' := ?_) #[true, true, true, true, true, false, false, true, true, false, false, false, false, false, false, false] rfl rfl (by kernel_rfl) (fun _ _ _ h => h) (Or.inl ⟨by rfl, ?_⟩) ?_ ?_
            rotate_left
            · intro w'
              go_simp
              with_reducible rfl
            rotate_left
            · simp only [Act.put, List.setIfInBounds_toArray, List.set_cons_zero, List.set_cons_succ, i64_w, i32_w]
              rfl
            refine pure_ (i := 9) (N := some 193) (v := ?_) (a' := ?_) #[true, true, true, true, true, false, false, true, true, true, false, false, false, false, false, false] rfl rfl (by kernel_rfl) (fun _ _ _ h => h) (Or.inl ⟨by rfl, ?_⟩) ?_ ?_
            rotate_left
            · intro w'
              go_simp
              with_reducible rfl
            rotate_left
            · simp only [Act.put, List.setIfInBounds_toArray, List.set_cons_zero, List.set_cons_succ, i64_w, i32_w]
              rfl
            refine pure_ (i := 10) (N := some 194) (v := ?_) (a' := ?_) #[true, true, true, true, true, false, false, true, true, true, true, false, false, false, false, false] rfl rfl (by kernel_rfl) (fun _ _ _ h => h) (Or.inl ⟨by rfl, ?_⟩) ?_ ?_
            rotate_left
            · intro w'
              go_simp
              with_reducible rfl
            rotate_left
            · simp only [Act.put, List.setIfInBounds_toArray, List.set_cons_zero, List.set_cons_succ, i64_w, i32_w]
              rfl
            refine pure_ (i := 11) (N := some 195) (v := ?_) (a' := ?_) #[true, true, true, true, true, false, false, true, true, true, true, true, false, false, false, false] rfl rfl (by kernel_rfl) (fun _ _ _ h => h) (Or.inl ⟨by rfl, ?_⟩) ?_ ?_
            rotate_left
            · intro w'
              go_simp
              with_reducible rfl
            rotate_left
            · simp only [Act.put, List.setIfInBounds_toArray, List.set_cons_zero, List.set_cons_succ, i64_w, i32_w]
              rfl
            refine take_ (i := 5) (N := some 189) (v := ?_) (a' := ?_) #[true, true, true, true, true, true, false, true, true, true, true, true, false, false, false, false] rfl rfl (by kernel_rfl) (fun _ _ _ h => h) (Or.inl ⟨by rfl, ?_⟩) hHeld ?_ ?_
            rotate_left
            · intro w' s0
              go_simp
              with_reducible rfl
            rotate_left
            · simp only [Act.put, List.setIfInBounds_toArray, List.set_cons_zero, List.set_cons_succ, i64_w, i32_w]
              rfl
            refine take_ (i := 12) (N := some 196) (v := ?_) (a' := ?_) #[true, true, true, true, true, true, false, true, true, true, true, true, true, false, false, false] rfl rfl (by kernel_rfl) (fun _ _ _ h => h) (Or.inl ⟨by rfl, ?_⟩) hHeld ?_ ?_
            rotate_left
            · intro w' s0
              go_simp
              with_reducible rfl
            rotate_left
            · simp only [Act.put, List.setIfInBounds_toArray, List.set_cons_zero, List.set_cons_succ, i64_w, i32_w]
              rfl
            refine one_ (i := 6) (N := some 190) #[true, true, true, true, true, true, true, true, true, true, true, true, true, false, false, false] rfl rfl (by kernel_rfl) (by decide) (fun K hK => ?_)
            refine goes_ Try.func29 (by kernel_rfl) rfl #[.pointer (some ⟨b, 0, none⟩), .int .i64 ix] (by rfl) rfl rfl (by simp only [List.map_toArray, List.map_cons, List.map_nil]; rfl) ?_
            with_reducible refine (HA.out).mono ?_
            rintro e w5 ⟨rfl, hP5t, hP5f⟩
            refine ⟨_, rfl, ?_⟩
            have hP5 := hP5f rfl
            obtain ⟨vl5, hE5, -, -⟩ := HND.out.postN hP5 HND.out.n.len
            have hT5 := r_double hE5.r.rep ix (fun x hx => by have := hE5.r.len x hx; omega) hM30
            rw [HAT2.out] at hT5
            have c15 := (HCL.out _ hE5.n.bel).2.1
            try clear hHeld
            refine hK.out _ _ (c15) (fun hHeld => ?_)
            clear hK K
            refine norm_ (a' := ?_) ?_ ?_
            rotate_left
            · show Act.put _ (some 190) _ = _
              simp only [Act.put, List.setIfInBounds_toArray, List.set_cons_zero, List.set_cons_succ, i64_w, i32_w]
              rfl
            refine one_ (i := 13) (N := some 197) #[true, true, true, true, true, true, true, true, true, true, true, true, true, true, false, false] rfl rfl (by kernel_rfl) (by decide) (fun K hK => ?_)
            refine goes_ Try.func30 (by kernel_rfl) rfl #[.pointer (some ⟨g, 0, none⟩), .int .i64 ix] (by rfl) rfl rfl (by simp only [List.map_toArray, List.map_cons, List.map_nil]; rfl) ?_
            with_reducible refine (hT5).mono ?_
            rintro e w6 ⟨rfl, hP6t, hP6f⟩
            refine ⟨_, rfl, ?_⟩
            have hP6 := hP6f rfl
            obtain ⟨vr6, hE6, -, -⟩ := hE5.postR hP6 hE5.r.len
            have c16 := (HCL.out _ hE6.n.bel).2.1
            try clear hHeld
            refine hK.out _ _ (c16) (fun hHeld => ?_)
            clear hK K
            refine norm_ (a' := ?_) ?_ ?_
            rotate_left
            · show Act.put _ (some 197) _ = _
              simp only [Act.put, List.setIfInBounds_toArray, List.set_cons_zero, List.set_cons_succ, i64_w, i32_w]
              rfl
            refine pure_ (i := 14) (N := some 198) (v := ?_) (a' := ?_) #[true, true, true, true, true, true, true, true, true, true, true, true, true, true, true, false] rfl rfl (by kernel_rfl) (fun _ _ _ h => h) (Or.inl ⟨by rfl, ?_⟩) ?_ ?_
            rotate_left
            · intro w'
              go_simp
              with_reducible rfl
            rotate_left
            · simp only [Act.put, List.setIfInBounds_toArray, List.set_cons_zero, List.set_cons_succ, i64_w, i32_w]
              rfl
            refine pure_ (i := 15) (N := some 8) (v := ?_) (a' := ?_) #[true, true, true, true, true, true, true, true, true, true, true, true, true, true, true, true] rfl rfl (by kernel_rfl) (fun _ _ _ h => h) (Or.inl ⟨by rfl, ?_⟩) ?_ ?_
            rotate_left
            · intro w'
              go_simp
              with_reducible rfl
            rotate_left
            · simp only [Act.put, List.setIfInBounds_toArray, List.set_cons_zero, List.set_cons_succ, i64_w, i32_w]
              rfl
            try clear hHeld
            refine done_ (by kernel_rfl) ?_
            have HE6 := Lib.hid hE6
            clear hP5t hP5f hP5 hE5 hT5 hP6t hP6f hP6 hE6 c15 c16 c1
            go_wp2_with fail
            have hlm_ := HLM.out
            have hml_ := msgs_len hlm_
            obtain ⟨ar_, cr_, evr_⟩ := own_shape HE6.out.r.rep.own
            have r0_ := HE6.out.r.rep.blk.cell 0
            rw [evr_, hml_] at r0_
            simp only [List.getElem?_toArray, List.length_cons, List.length_nil] at r0_
            have hlen_ := n_len (w := w6.drew) ⟨HE6.out.n.rep.blk.drew, HE6.out.n.rep.own, HE6.out.n.rep.bytes⟩
            have hbn_ : ((((L).length : Nat) : Int) != (((L).length : Nat) : Int)) = false := by simp
            clear evr_ hml_
            refine start_ (n := 12) (S := fun w' => w'.cell? ⟨g, 0, none⟩ = some (.slice ar_ (L).length cr_)) (ds := []) #[false, false, false, false, false, false, false, false, false, false, false, false] (by kernel_rfl) rfl rfl (r0_) (fun hHeld => ?_)
            refine pure_ (i := 0) (N := some 199) (v := ?_) (a' := ?_) #[true, false, false, false, false, false, false, false, false, false, false, false] rfl rfl (by kernel_rfl) (fun _ _ _ h => h) (Or.inl ⟨by rfl, ?_⟩) ?_ ?_
            rotate_left
            · intro w'
              go_simp
              with_reducible rfl
            rotate_left
            · simp only [Act.put, List.setIfInBounds_toArray, List.set_cons_zero, List.set_cons_succ, i64_w, i32_w]
              rfl
            refine pure_ (i := 1) (N := some 200) (v := ?_) (a' := ?_) #[true, true, false, false, false, false, false, false, false, false, false, false] rfl rfl (by kernel_rfl) (fun _ _ _ h => h) (Or.inl ⟨by rfl, ?_⟩) ?_ ?_
            rotate_left
            · intro w'
              go_simp
              with_reducible rfl
            rotate_left
            · simp only [Act.put, List.setIfInBounds_toArray, List.set_cons_zero, List.set_cons_succ, i64_w, i32_w]
              rfl
            refine pure_ (i := 2) (N := some 201) (v := ?_) (a' := ?_) #[true, true, true, false, false, false, false, false, false, false, false, false] rfl rfl (by kernel_rfl) (fun _ _ _ h => h) (Or.inl ⟨by rfl, ?_⟩) ?_ ?_
            rotate_left
            · intro w'
              go_simp
              with_reducible rfl
            rotate_left
            · simp only [Act.put, List.setIfInBounds_toArray, List.set_cons_zero, List.set_cons_succ, i64_w, i32_w]
              rfl
            refine pure_ (i := 3) (N := some 202) (v := ?_) (a' := ?_) #[true, true, true, true, false, false, false, false, false, false, false, false] rfl rfl (by kernel_rfl) (fun _ _ _ h => h) (Or.inl ⟨by rfl, ?_⟩) ?_ ?_
            rotate_left
            · intro w'
              go_simp
              with_reducible rfl
            rotate_left
            · simp only [Act.put, List.setIfInBounds_toArray, List.set_cons_zero, List.set_cons_succ, i64_w, i32_w]
              rfl
            refine pure_ (i := 5) (N := some 204) (v := ?_) (a' := ?_) #[true, true, true, true, false, true, false, false, false, false, false, false] rfl rfl (by kernel_rfl) (fun _ _ _ h => h) (Or.inl ⟨by rfl, ?_⟩) ?_ ?_
            rotate_left
            · intro w'
              go_simp
              with_reducible rfl
            rotate_left
            · simp only [Act.put, List.setIfInBounds_toArray, List.set_cons_zero, List.set_cons_succ, i64_w, i32_w]
              rfl
            refine pure_ (i := 6) (N := some 205) (v := ?_) (a' := ?_) #[true, true, true, true, false, true, true, false, false, false, false, false] rfl rfl (by kernel_rfl) (fun _ _ _ h => h) (Or.inl ⟨by rfl, ?_⟩) ?_ ?_
            rotate_left
            · intro w'
              go_simp
              with_reducible rfl
            rotate_left
            · simp only [Act.put, List.setIfInBounds_toArray, List.set_cons_zero, List.set_cons_succ, i64_w, i32_w]
              rfl
            refine pure_ (i := 7) (N := some 206) (v := ?_) (a' := ?_) #[true, true, true, true, false, true, true, true, false, false, false, false] rfl rfl (by kernel_rfl) (fun _ _ _ h => h) (Or.inl ⟨by rfl, ?_⟩) ?_ ?_
            rotate_left
            · intro w'
              go_simp
              with_reducible rfl
            rotate_left
            · simp only [Act.put, List.setIfInBounds_toArray, List.set_cons_zero, List.set_cons_succ, i64_w, i32_w]
              rfl
            refine take_ (i := 8) (N := some 207) (v := ?_) (a' := ?_) #[true, true, true, true, false, true, true, true, true, false, false, false] rfl rfl (by kernel_rfl) (fun _ _ _ h => h) (Or.inl ⟨by rfl, ?_⟩) hHeld ?_ ?_
            rotate_left
            · intro w' s0
              go_simp
              with_reducible rfl
            rotate_left
            · simp only [Act.put, List.setIfInBounds_toArray, List.set_cons_zero, List.set_cons_succ, i64_w, i32_w]
              rfl
            refine pure_ (i := 9) (N := some 208) (v := ?_) (a' := ?_) #[true, true, true, true, false, true, true, true, true, true, false, false] rfl rfl (by kernel_rfl) (fun _ _ _ h => h) (Or.inl ⟨by rfl, ?_⟩) ?_ ?_
            rotate_left
            · intro w'
              go_simp
              with_reducible rfl
            rotate_left
            · simp only [Act.put, List.setIfInBounds_toArray, List.set_cons_zero, List.set_cons_succ, i64_w, i32_w]
              rfl
            refine one_ (i := 4) (N := some 203) #[true, true, true, true, true, true, true, true, true, true, false, false] rfl rfl (by kernel_rfl) (by decide) (fun K hK => ?_)
            refine goes_ Try.func31 (by kernel_rfl) rfl #[.pointer (some ⟨b, 0, none⟩)] (by rfl) rfl rfl (by simp only [List.map_toArray, List.map_cons, List.map_nil]; rfl) ?_
            with_reducible refine (hlen_).mono ?_
            rintro e w9 ⟨rfl, rfl⟩
            refine ⟨_, rfl, ?_⟩
            try clear hHeld
            refine hK.out _ _ (r0_) (fun hHeld => ?_)
            clear hK K
            refine norm_ (a' := ?_) ?_ ?_
            rotate_left
            · show Act.put _ (some 203) _ = _
              simp only [Act.put, List.setIfInBounds_toArray, List.set_cons_zero, List.set_cons_succ, i64_w, i32_w]
              rfl
            refine pure_ (i := 10) (N := some 209) (v := ?_) (a' := ?_) #[true, true, true, true, true, true, true, true, true, true, true, false] rfl rfl (by kernel_rfl) (fun _ _ _ h => h) (Or.inl ⟨by rfl, ?_⟩) ?_ ?_
            rotate_left
            · intro w'
              go_simp
              with_reducible rfl
            rotate_left
            · simp only [Act.put, List.setIfInBounds_toArray, List.set_cons_zero, List.set_cons_succ, i64_w, i32_w]
              rfl
            refine pure_ (i := 11) (N := some 210) (v := ?_) (a' := ?_) #[true, true, true, true, true, true, true, true, true, true, true, true] rfl rfl (by kernel_rfl) (fun _ _ _ h => h) (Or.inl ⟨by rfl, ?_⟩) ?_ ?_
            rotate_left
            · intro w'
              go_simp
              with_reducible rfl
            rotate_left
            · simp only [Act.put, List.setIfInBounds_toArray, List.set_cons_zero, List.set_cons_succ, i64_w, i32_w]
              rfl
            try clear hHeld
            refine done_ (by kernel_rfl) ?_
            clear r0_ hlen_
            go_wp2_with fail
            go_roundw
            case rel => exact ⟨i + 1, _, _, _, _, by omega, by go_num, by omega, HE6.out.below (Below.refl _ _).drew, hlm_⟩
            case measure => simp [intOf]; omega
        · skip
          have e0 : (kd == 0) = false := by simp; exact hk0
          have e1 : (kd == 1) = false := by simp; exact hk1
          have e2 : (kd == 2) = false := by simp; exact hk2
          have e3 : (kd == 3) = false := by simp; exact hk3
          have e4 : (kd == 4) = false := by simp; exact hk4
          go_wp2_with fail
          have hlm_ := HLM.out
          have hml_ := msgs_len hlm_
          obtain ⟨ar_, cr_, evr_⟩ := own_shape HNE.out.r.rep.own
          have r0_ := HNE.out.r.rep.blk.cell 0
          rw [evr_, hml_] at r0_
          simp only [List.getElem?_toArray, List.length_cons, List.length_nil] at r0_
          have hlen_ := n_len (w := wr.drew) ⟨HNE.out.n.rep.blk.drew, HNE.out.n.rep.own, HNE.out.n.rep.bytes⟩
          have hbn_ : ((((L).length : Nat) : Int) != (((L).length : Nat) : Int)) = false := by simp
          clear evr_ hml_
          refine start_ (n := 12) (S := fun w' => w'.cell? ⟨g, 0, none⟩ = some (.slice ar_ (L).length cr_)) (ds := []) #[false, false, false, false, false, false, false, false, false, false, false, false] (by kernel_rfl) rfl rfl (r0_) (fun hHeld => ?_)
          refine pure_ (i := 0) (N := some 199) (v := ?_) (a' := ?_) #[true, false, false, false, false, false, false, false, false, false, false, false] rfl rfl (by kernel_rfl) (fun _ _ _ h => h) (Or.inl ⟨by rfl, ?_⟩) ?_ ?_
          rotate_left
          · intro w'
            go_simp
            with_reducible rfl
          rotate_left
          · simp only [Act.put, List.setIfInBounds_toArray, List.set_cons_zero, List.set_cons_succ, i64_w, i32_w]
            rfl
          refine pure_ (i := 1) (N := some 200) (v := ?_) (a' := ?_) #[true, true, false, false, false, false, false, false, false, false, false, false] rfl rfl (by kernel_rfl) (fun _ _ _ h => h) (Or.inl ⟨by rfl, ?_⟩) ?_ ?_
          rotate_left
          · intro w'
            go_simp
            with_reducible rfl
          rotate_left
          · simp only [Act.put, List.setIfInBounds_toArray, List.set_cons_zero, List.set_cons_succ, i64_w, i32_w]
            rfl
          refine pure_ (i := 2) (N := some 201) (v := ?_) (a' := ?_) #[true, true, true, false, false, false, false, false, false, false, false, false] rfl rfl (by kernel_rfl) (fun _ _ _ h => h) (Or.inl ⟨by rfl, ?_⟩) ?_ ?_
          rotate_left
          · intro w'
            go_simp
            with_reducible rfl
          rotate_left
          · simp only [Act.put, List.setIfInBounds_toArray, List.set_cons_zero, List.set_cons_succ, i64_w, i32_w]
            rfl
          refine pure_ (i := 3) (N := some 202) (v := ?_) (a' := ?_) #[true, true, true, true, false, false, false, false, false, false, false, false] rfl rfl (by kernel_rfl) (fun _ _ _ h => h) (Or.inl ⟨by rfl, ?_⟩) ?_ ?_
          rotate_left
          · intro w'
            go_simp
            with_reducible rfl
          rotate_left
          · simp only [Act.put, List.setIfInBounds_toArray, List.set_cons_zero, List.set_cons_succ, i64_w, i32_w]
            rfl
          refine pure_ (i := 5) (N := some 204) (v := ?_) (a' := ?_) #[true, true, true, true, false, true, false, false, false, false, false, false] rfl rfl (by kernel_rfl) (fun _ _ _ h => h) (Or.inl ⟨by rfl, ?_⟩) ?_ ?_
          rotate_left
          · intro w'
            go_simp
            with_reducible rfl
          rotate_left
          · simp only [Act.put, List.setIfInBounds_toArray, List.set_cons_zero, List.set_cons_succ, i64_w, i32_w]
            rfl
          refine pure_ (i := 6) (N := some 205) (v := ?_) (a' := ?_) #[true, true, true, true, false, true, true, false, false, false, false, false] rfl rfl (by kernel_rfl) (fun _ _ _ h => h) (Or.inl ⟨by rfl, ?_⟩) ?_ ?_
          rotate_left
          · intro w'
            go_simp
            with_reducible rfl
          rotate_left
          · simp only [Act.put, List.setIfInBounds_toArray, List.set_cons_zero, List.set_cons_succ, i64_w, i32_w]
            rfl
          refine pure_ (i := 7) (N := some 206) (v := ?_) (a' := ?_) #[true, true, true, true, false, true, true, true, false, false, false, false] rfl rfl (by kernel_rfl) (fun _ _ _ h => h) (Or.inl ⟨by rfl, ?_⟩) ?_ ?_
          rotate_left
          · intro w'
            go_simp
            with_reducible rfl
          rotate_left
          · simp only [Act.put, List.setIfInBounds_toArray, List.set_cons_zero, List.set_cons_succ, i64_w, i32_w]
            rfl
          refine take_ (i := 8) (N := some 207) (v := ?_) (a' := ?_) #[true, true, true, true, false, true, true, true, true, false, false, false] rfl rfl (by kernel_rfl) (fun _ _ _ h => h) (Or.inl ⟨by rfl, ?_⟩) hHeld ?_ ?_
          rotate_left
          · intro w' s0
            go_simp
            with_reducible rfl
          rotate_left
          · simp only [Act.put, List.setIfInBounds_toArray, List.set_cons_zero, List.set_cons_succ, i64_w, i32_w]
            rfl
          refine pure_ (i := 9) (N := some 208) (v := ?_) (a' := ?_) #[true, true, true, true, false, true, true, true, true, true, false, false] rfl rfl (by kernel_rfl) (fun _ _ _ h => h) (Or.inl ⟨by rfl, ?_⟩) ?_ ?_
          rotate_left
          · intro w'
            go_simp
            with_reducible rfl
          rotate_left
          · simp only [Act.put, List.setIfInBounds_toArray, List.set_cons_zero, List.set_cons_succ, i64_w, i32_w]
            rfl
          refine one_ (i := 4) (N := some 203) #[true, true, true, true, true, true, true, true, true, true, false, false] rfl rfl (by kernel_rfl) (by decide) (fun K hK => ?_)
          refine goes_ Try.func31 (by kernel_rfl) rfl #[.pointer (some ⟨b, 0, none⟩)] (by rfl) rfl rfl (by simp only [List.map_toArray, List.map_cons, List.map_nil]; rfl) ?_
          with_reducible refine (hlen_).mono ?_
          rintro e w9 ⟨rfl, rfl⟩
          refine ⟨_, rfl, ?_⟩
          try clear hHeld
          refine hK.out _ _ (r0_) (fun hHeld => ?_)
          clear hK K
          refine norm_ (a' := ?_) ?_ ?_
          rotate_left
          · show Act.put _ (some 203) _ = _
            simp only [Act.put, List.setIfInBounds_toArray, List.set_cons_zero, List.set_cons_succ, i64_w, i32_w]
            rfl
          refine pure_ (i := 10) (N := some 209) (v := ?_) (a' := ?_) #[true, true, true, true, true, true, true, true, true, true, true, false] rfl rfl (by kernel_rfl) (fun _ _ _ h => h) (Or.inl ⟨by rfl, ?_⟩) ?_ ?_
          rotate_left
          · intro w'
            go_simp
            with_reducible rfl
          rotate_left
          · simp only [Act.put, List.setIfInBounds_toArray, List.set_cons_zero, List.set_cons_succ, i64_w, i32_w]
            rfl
          refine pure_ (i := 11) (N := some 210) (v := ?_) (a' := ?_) #[true, true, true, true, true, true, true, true, true, true, true, true] rfl rfl (by kernel_rfl) (fun _ _ _ h => h) (Or.inl ⟨by rfl, ?_⟩) ?_ ?_
          rotate_left
          · intro w'
            go_simp
            with_reducible rfl
          rotate_left
          · simp only [Act.put, List.setIfInBounds_toArray, List.set_cons_zero, List.set_cons_succ, i64_w, i32_w]
            rfl
          try clear hHeld
          refine done_ (by kernel_rfl) ?_
          clear r0_ hlen_
          go_wp2_with fail
          go_roundw
          case rel => exact ⟨i + 1, _, _, _, _, by omega, by go_num, by omega, HNE.out.below (Below.refl _ _).drew, hlm_⟩
          case measure => simp [intOf]; omega
      · have hil : i = len := by omega
        subst hil
        have d0 : decide ((i : Int) < i) = false := decide_eq_false (by omega)
        have HNE := Lib.hid hNE
        clear hNE
        go_wp2_with fail
        go_ret
        exact ⟨rfl, HNE.out.n.bel⟩
end Go.Proofs.Ytjbmfmhibmnaiaa
