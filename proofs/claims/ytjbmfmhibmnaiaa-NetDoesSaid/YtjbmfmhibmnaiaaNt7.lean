/-
  The document's net: Take, Double.
-/
import Derived.Test.YtjbmfmhibmnaiaaNt6
namespace Go.Proofs.Ytjbmfmhibmnaiaa
set_option linter.unusedVariables false
set_option maxRecDepth 100000
set_option linter.unusedSimpArgs false
open Go.RowKit

theorem row_news2 {w : World} {e : TypeId} {s g n cl : Nat} {xs : List Value} (h : Own w e s (.slice (some ⟨g, 0, none⟩) n cl) n xs) (o : Nat) (news : List Value) (hn : ∀ t, t < news.length → o + t < xs.length ∧ xs[o + t]? = news[t]?) : ∀ t u, news[t]? = some u → w.cell? ((⟨g, o, none⟩ : Addr).add t) = some u := by
  intro t u hu
  have ht := (List.getElem?_eq_some_iff.1 hu).1
  obtain ⟨h1, h2⟩ := hn t ht
  rw [show (⟨g, o, none⟩ : Addr).add t = ⟨g, o + t, none⟩ by unfold Addr.add; split <;> simp_all, World.ownsRow.cellAt h (o + t) (by have := h.1; omega), h2]
  exact hu

theorem own_blk_ne' {w : World} {e : TypeId} {s n g k : Nat} {v : Value} {xs : List Value} (h : Own w e s v n xs) (hat : v.ownBlock = none ∨ v.ownBlock = some g) (hl : k < w.heap.size) (hne : k ≠ g) : ¬ v.ownBlock = some k := fun e => by
  rcases hat with h | h <;> rw [h] at e
  · cases e
  · injection e with e; exact hne e.symm

set_option maxRecDepth 100000 in
set_option maxHeartbeats 3200000 in
theorem r_take {w : World} {b : Nat} {vl : Value} {L : List (Msg × Value)} (h : NRep w 45 b vl L) (i : Int) (hL : L.length < 1073741824) :
    Calls Try.prog 27 #[.pointer (some ⟨b, 0, none⟩), .int .i64 i] w (TakeP w 45 b vl L i) := by
  have hb1 : Below w.heap.size w (w.alloc (.cells #[.int .i64 0, .int .i64 0, .int .i64 0, .int .i64 0, .slice none 0 0] 48)) := (Below.refl _ _).alloc (Nat.le_refl _) _
  have hZ1 := Blk.new w #[.int .i64 0, .int .i64 0, .int .i64 0, .int .i64 0, .slice none 0 0] 48
  have h1 := h.below hb1
  have hA := r_at h1 i hL
  have hbl := h.blk.lt
  by_cases hin : 0 ≤ i ∧ i < L.length
  · obtain ⟨q, rfl⟩ := Int.eq_ofNat_of_zero_le hin.1
    have hq : q < L.length := by omega
    have e : atN (msgs L) (q : Int) = ((msgs L).getD q noMsg, true) := by unfold atN; rw [if_pos (by simpa using hq)]; rfl
    have et : takeN L (q : Int) = L.take q ++ L.drop (q + 1) := by unfold takeN; rw [if_pos ⟨by omega, by omega⟩]; rfl
    have hvv : ∀ k, (valN L (q : Int)).ownBlock = some k → k < w.heap.size ∧ k ≠ b ∧ vl.ownBlock ≠ some k := fun k hk => by
      have ev : valN L (q : Int) = (L.getD q (noMsg, .slice none 0 0)).2 := by unfold valN; rw [if_pos ⟨by omega, by omega⟩]; rfl
      rw [ev] at hk
      have hx : L.getD q (noMsg, .slice none 0 0) ∈ L := by
        rw [List.getD_eq_getElem?_getD, List.getElem?_eq_getElem hq]; exact List.getElem_mem _
      have ho := h.bytes _ hx
      exact ⟨own_lt ho hk, fun e => own_blk_ne ho h.blk (by decide) (e ▸ hk), own_type_ne ho h.own (by decide) hk⟩
    have hvo : Own w 5 1 (valN L (q : Int)) ((msgs L).getD q noMsg).b.length (byt ((msgs L).getD q noMsg).b) := by
      have ev : valN L (q : Int) = (L.getD q (noMsg, .slice none 0 0)).2 := by unfold valN; rw [if_pos ⟨by omega, by omega⟩]; rfl
      rw [ev, msgs_getD L hq]
      apply h.bytes
      rw [List.getD_eq_getElem?_getD, List.getElem?_eq_getElem hq]; exact List.getElem_mem _
    have HVV := Lib.hid hvv
    have HVO := Lib.hid hvo
    clear hvv hvo
    unfold TakeP
    rw [e, et]
    rw [e] at hA
    generalize (msgs L).getD q noMsg = m at *
    obtain ⟨g, cl, evl, hlc, hlm⟩ := own_open h.own (by omega)
    simp only [maxLen] at hlm
    have hgl : g < w.heap.size := own_lt h.own (by rw [evl]; rfl)
    obtain ⟨A, hA0, hAx⟩ : ∃ A : Addr, (if cl = q + 1 then some (⟨g, 0, none⟩ : Addr) else some ⟨g, (q + 1) * 5, none⟩) = some A ∧ (L.drop (q + 1) = [] ∨ A = ⟨g, (q + 1) * 5, none⟩) := by
      by_cases hc : cl = q + 1
      · exact ⟨_, by rw [if_pos hc], .inl (List.drop_eq_nil_of_le (by omega))⟩
      · exact ⟨_, by rw [if_neg hc], .inr rfl⟩
    obtain ⟨i0, hi, hz0, hz1, hz2⟩ := info_parts infoMsg
    have HAX := Lib.hid hAx
    have HVL := Lib.hid evl
    have HA := Lib.hid hA
    have HB := Lib.hid hb1
    have HZ := Lib.hid hZ1
    have H1 := Lib.hid h1
    have HH := Lib.hid h
    have hone := h.one
    have HONE := Lib.hid hone
    have i64k : IntKind.i64.wrap ((q : Int) + 1) = (q : Int) + 1 := IntWalk.i64_in _ (by omega)
    have hqc : q ≤ cl := by omega
    have hqc1 : q + 1 ≤ L.length := by omega
    have hqc2 : q + 1 ≤ cl := by omega
    have hcl9 : cl ≤ 9223372036854775807 := by omega
    clear hA hb1 hZ1 h h1 hin e et evl hAx hone
    go_enter Try.func27, Try.ntmps27
    go_wp2_with (first
      | (go_at_call 24; refine HA.out.mono ?_; rintro e w3 ⟨rfl, hR, hb⟩; generalize valN L (q : Int) = vv at *; obtain ⟨a3, c3, rfl, -⟩ := id hR; have h4 := (H1.out.below hb).below ((Below.refl _ w3).alloc (Nat.le_refl _) (.cells (msgB m (.slice a3 m.b.length c3)) 48)); have hB4 := Blk.new w3 (msgB m (.slice a3 m.b.length c3)) 48; have hZ4 := (HZ.out.below hb HZ.out.lt).alloc (.cells (msgB m (.slice a3 m.b.length c3)) 48); have l0 := h4.blk.cell 0; simp only [HVL.out] at l0; have hrow := h4.own; rw [HVL.out] at hrow; have hn1 := row_news2 hrow 0 (rowC (L.take q)) (fun t ht => by rw [rowC_len, List.length_take] at ht; rw [rowC_len, Nat.zero_add, ← rowC_take, List.getElem?_take, if_pos (by omega)]; exact ⟨by omega, rfl⟩); have hsz3 : w.heap.size + 1 ≤ w3.heap.size := (by have := hb.size; simp at this; omega); have HN1 := Lib.hid hn1; have HB4 := Lib.hid hB4; have HZ4 := Lib.hid hZ4; have HR := Lib.hid hR; have HBB := Lib.hid hb; have H4 := Lib.hid h4; clear hR hb h4 hrow hn1 hB4 hZ4)
      | (at_builtin; refine wpList_append_own_at _ rfl _ _ 43 rfl 0 48 i0 (.agg #[.int .i64 0, .int .i64 0, .int .i64 0, .int .i64 0, .slice none 0 0]) 5 56 Try.underlying43 hi hz0 hz1 hz2 rfl (by decide) (.slice a1 q c1) q (rowC (L.take q)) rfl HO1.out A (L.length - (q + 1)) (cl - (q + 1)) (rowC (L.drop (q + 1))) rfl (by rw [rowC_len, List.length_drop]) HN2.out (fun u hu => HONE.out u (by rw [← rowC_drop] at hu; exact List.mem_of_mem_drop hu)) (by simp only [maxLen]; omega) (by omega) (Nat.zero_le _) ?_; intro v2 w6 hO2 hg2 hnil2 hat2; clear hnil2; obtain ⟨a2, c2, rfl⟩ := own_shape hO2; have k56 : Keeps (fun k => (Value.slice a1 q c1).ownBlock = some k) w5 w6 := (Keeps.refl _ w5).grown hg2 (fun q e => .inl e); have hBk6 := H5.out.blk.keeps k56 (fun e => own_blk_ne HO1.out H5.out.blk (by decide) e); have nb1 : ¬ (Value.slice a1 q c1).ownBlock = some w3.heap.size := own_blk_ne' HO1.out HAT1.out HB5.out.lt (by simp); have nb2 : ¬ (Value.slice a1 q c1).ownBlock = some w.heap.size := own_blk_ne' HO1.out HAT1.out HZ5.out.lt (by simp; omega); have hB6 := HB5.out.keeps k56 nb1; have hZ6 := HZ5.out.keeps k56 nb2; have cb := hBk6.cell 0; have fb := hBk6.frozen 0; simp at cb; have z0 := hZ6.cell 0; have z1 := hZ6.cell 1; have z2 := hZ6.cell 2; have z3 := hZ6.cell 3; have z4 := hZ6.cell 4; simp at z0 z1 z2 z3 z4; have fz0 := hZ6.frozen 0; have fz1 := hZ6.frozen 1; have fz2 := hZ6.frozen 2; have fz3 := hZ6.frozen 3; have fz4 := hZ6.frozen 4;  have q0 := hB6.cell 0; have q1 := hB6.cell 1; have q2 := hB6.cell 2; have q3 := hB6.cell 3; have q4 := hB6.cell 4; simp at q0 q1 q2 q3 q4;  have m1 : b ≠ w3.heap.size := (by omega); have m2 : w3.heap.size ≠ b := (by omega); have m3 : b ≠ w.heap.size := (by omega); have m4 : w.heap.size ≠ b := (by omega); have m5 : w3.heap.size ≠ w.heap.size := (by omega); have m6 : w.heap.size ≠ w3.heap.size := (by omega); have HO2 := Lib.hid hO2; have HK56 := Lib.hid k56; have HAT2 := Lib.hid hat2; have HBK6 := Lib.hid hBk6; clear hO2 hg2 hat2 k56 hBk6 hB6 hZ6 l0)
      | (at_builtin; refine wpList_append_own_at _ rfl _ _ 43 rfl 0 48 i0 (.agg #[.int .i64 0, .int .i64 0, .int .i64 0, .int .i64 0, .slice none 0 0]) 5 56 Try.underlying43 hi hz0 hz1 hz2 rfl (by decide) (.slice none 0 0) 0 [] rfl (World.ownsRow_nil ..) ⟨g, 0, none⟩ q cl (rowC (L.take q)) rfl (by rw [rowC_len, List.length_take]; omega) HN1.out (fun u hu => HONE.out u (by rw [← rowC_take] at hu; exact List.mem_of_mem_take hu)) (by simp only [maxLen]; omega) (by omega) (Nat.zero_le _) ?_; intro v1 w5 hO1 hg1 hnil1 hat1; clear hnil1 l0; rw [Nat.zero_add, List.nil_append] at hO1; obtain ⟨a1, c1, rfl⟩ := own_shape hO1; have h5 := H4.out.keeps (keeps_grown (Keeps.refl (fun _ => False) _) hg1) (fun _ _ h => h); have hB5 := HB4.out.keeps (keeps_grown (Keeps.refl (fun _ => False) _) hg1) (fun h => h); have hZ5 := HZ4.out.keeps (keeps_grown (Keeps.refl (fun _ => False) _) hg1) (fun h => h); have l0 := h5.blk.cell 0; simp only [HVL.out] at l0; have hrow := h5.own; rw [HVL.out] at hrow; have hn2 : ∀ t u, (rowC (L.drop (q + 1)))[t]? = some u → w5.cell? (A.add t) = some u := (by
        rcases HAX.out with e | e
        · rw [e]; intro t u hu; simp [rowC] at hu
        · rw [e]; exact row_news2 hrow ((q + 1) * 5) _ (fun t ht => by rw [rowC_len, List.length_drop] at ht; rw [rowC_len, ← rowC_drop, List.getElem?_drop]; exact ⟨by omega, rfl⟩)); have hat1' : (Value.slice a1 q c1).ownBlock = none ∨ (Value.slice a1 q c1).ownBlock = some (w3.alloc (.cells (msgB m (.slice a3 m.b.length c3)) 48)).heap.size := hat1.imp (fun e => e.trans rfl) id; have HN2 := Lib.hid hn2; have HO1 := Lib.hid hO1; have HG1 := Lib.hid hg1; have HAT1 := Lib.hid hat1'; have H5 := Lib.hid h5; have HB5 := Lib.hid hB5; have HZ5 := Lib.hid hZ5; clear hn2 hO1 hg1 hat1 hat1' h5 hrow hB5 hZ5))
    refine bodyPost_ret (v := .tuple #[msgA m (.slice a3 m.b.length c3), .bool true]) ?_ rfl ?_
    · simp [results, Try.results27, go_sem, z0, z1, z2, z3, z4]
    · have hlen : (L.take q ++ L.drop (q + 1)).length = q + (L.length - (q + 1)) := by simp; omega
      have ho6 := HO2.out
      rw [← rowC_append, ← hlen] at ho6
      obtain ⟨V, hV⟩ : ∃ V, V = Value.slice a2 (q + (L.length - (q + 1))) c2 := ⟨_, rfl⟩
      rw [hlen, ← hV, ← hlen] at ho6
      rw [← hV]
      have kS := keeps_set5 (Keeps.refl (fun k => k = w.heap.size) (w6.setCell ⟨b, 0, none⟩ V)) w.heap.size (.inl rfl) m (.slice a3 m.b.length c3)
      have kb := HB.out.trans (HBB.out.mono (by simp))
      have k3 : Keeps (fun k => k = b ∨ vl.ownBlock = some k) w w3 := Keeps.ofBelow kb
      have k5 := keeps_grown (k3.alloc (.cells (msgB m (.slice a3 m.b.length c3)) 48)) HG1.out
      have nfr : ∀ k, (Value.slice a1 q c1).ownBlock = some k → w.heap.size + 1 ≤ k := fun k hk => by
        rcases HAT1.out with e | e <;> rw [e] at hk
        · cases hk
        · injection hk with hk; simp at hk; omega
      have k6 := k5.trans HK56.out (fun k hk => .inr (by have := nfr k hk; omega))
      have kF := keeps_set5 (k6.set b 0 (.inl (.inl rfl)) V) w.heap.size (.inr (Nat.le_refl _)) m (.slice a3 m.b.length c3)
      have hsub : ∀ x ∈ L.take q ++ L.drop (q + 1), x ∈ L := fun x hx => by
        rcases List.mem_append.1 hx with hx | hx
        · exact List.mem_of_mem_take hx
        · exact List.mem_of_mem_drop hx
      have s5 : (w3.alloc (.cells (msgB m (.slice a3 m.b.length c3)) 48)).heap.size ≤ w5.heap.size := HG1.out.size
      have hvf : ∀ k, V.ownBlock = some k → w.heap.size + 1 ≤ k := fun k hk => by
        rw [hV] at hk
        rcases HAT2.out with e | e <;> rw [e] at hk
        · exact nfr k hk
        · injection hk with hk; simp at hk s5; omega
      have hby : ∀ (u : Value) (xs : List Int), Own w5 5 1 u xs.length (byt xs) → (∀ k, u.ownBlock = some k → k ≠ w.heap.size) → Own (set5 (w6.setCell ⟨b, 0, none⟩ V) w.heap.size m (.slice a3 m.b.length c3)) 5 1 u xs.length (byt xs) := fun u xs hu hne =>
        own_keeps (own_set (own_keeps hu HK56.out (fun k hk e => own_type_ne hu HO1.out (by decide) hk e)) HBK6.out (by decide) 0 V) kS (fun k hk e => hne k hk e)
      have hvo5 := own_keeps (own_below (own_below HVO.out kb) ((Below.refl _ w3).alloc (Nat.le_refl _) (.cells (msgB m (.slice a3 m.b.length c3)) 48))) (keeps_grown (Keeps.refl (fun _ => False) _) HG1.out) (fun _ _ h => h)
      refine ⟨_, rfl, hby _ _ hvo5 (fun k hk e => by have := (HVV.out k hk).1; omega), V, ⟨?_, ?_, fun x hx => hby _ _ (H5.out.bytes x (hsub x hx)) (fun k hk e => by have := own_lt (HH.out.bytes x (hsub x hx)) hk; omega)⟩, kF, fun k hk => ?_⟩
      · have := (HBK6.out.set 0 V).keeps kS m3
        simpa using this
      · exact own_keeps (own_set ho6 HBK6.out (by decide) 0 V) kS (fun k hk e => by have := hvf k hk; omega)
      · rcases hk with hk | hk | ⟨x, hx, hk⟩
        · exact .inl (.inl hk)
        · exact .inr (by have := hvf k hk; omega)
        · exact .inl (.inr (.inr ⟨x, hsub x hx, hk⟩))
  · have e : atN (msgs L) i = (noMsg, false) := by unfold atN; rw [if_neg (by simpa using hin)]
    have et : takeN L i = L := by unfold takeN; rw [if_neg hin]
    unfold TakeP
    rw [e, et]
    rw [e] at hA
    have HA := Lib.hid hA
    have HB := Lib.hid hb1
    have HZ := Lib.hid hZ1
    have HH := Lib.hid h
    clear hA hb1 hZ1 h h1 e et
    have HVN : Hid (valN L i = .slice none 0 0) := Lib.hid (by unfold valN; rw [if_neg hin])
    have HM0 : Hid (noMsg.b = []) := Lib.hid rfl
    clear hin
    generalize noMsg = m at *
    go_enter Try.func27, Try.ntmps27
    go_wp2_with (go_at_call 24; refine HA.out.mono ?_; rintro e w3 ⟨rfl, hR, hb⟩; generalize valN L i = vv at *; obtain ⟨a3, c3, rfl, -⟩ := id hR; have hZ4 := (HZ.out.below hb HZ.out.lt).alloc (.cells (msgB m (.slice a3 m.b.length c3)) 48); have hB4 := Blk.new w3 (msgB m (.slice a3 m.b.length c3)) 48; have z0 := hZ4.cell 0; have z1 := hZ4.cell 1; have z2 := hZ4.cell 2; have z3 := hZ4.cell 3; have z4 := hZ4.cell 4; simp at z0 z1 z2 z3 z4; have fz0 := hZ4.frozen 0; have fz1 := hZ4.frozen 1; have fz2 := hZ4.frozen 2; have fz3 := hZ4.frozen 3; have fz4 := hZ4.frozen 4;  have q0 := hB4.cell 0; have q1 := hB4.cell 1; have q2 := hB4.cell 2; have q3 := hB4.cell 3; have q4 := hB4.cell 4; simp at q0 q1 q2 q3 q4;  have hR3 := (hR.below hb (Nat.le_refl _)).alloc (.cells (msgB m (.slice a3 m.b.length c3)) 48); have HR := Lib.hid hR3; have HBB := Lib.hid hb; have hsz3 : w.heap.size + 1 ≤ w3.heap.size := (by have := hb.size; simp at this; omega); have m5 : w3.heap.size ≠ w.heap.size := (by omega); have m6 : w.heap.size ≠ w3.heap.size := (by omega); clear hR hb hZ4 hB4 hR3)
    refine bodyPost_ret (v := .tuple #[msgA m (.slice a3 m.b.length c3), .bool false]) ?_ rfl ?_
    · simp [results, Try.results27, go_sem, z0, z1, z2, z3, z4]
    · have kb := HB.out.trans (HBB.out.mono (by simp))
      have k3 : Keeps (fun _ => False) w w3 := Keeps.ofBelow kb
      have kF := keeps_set5 (k3.alloc (.cells (msgB m (.slice a3 m.b.length c3)) 48)) w.heap.size (.inr (Nat.le_refl _)) m (.slice a3 m.b.length c3)
      have hbF := kF.below (B := w.heap.size) (fun _ h => h.elim) (Nat.le_refl _)
      have kS := keeps_set5 (Keeps.refl (fun k => k = w.heap.size) (w3.alloc (.cells (msgB m (.slice a3 m.b.length c3)) 48))) w.heap.size (.inl rfl) m (.slice a3 m.b.length c3)
      refine ⟨.slice a3 m.b.length c3, rfl, ?_, NPost.same HH.out hbF⟩
      rw [HVN.out, HM0.out]
      exact World.ownsRow_nil ..
end Go.Proofs.Ytjbmfmhibmnaiaa
