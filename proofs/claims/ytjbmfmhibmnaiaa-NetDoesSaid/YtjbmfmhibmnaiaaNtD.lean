/-
  Package slices at []api.Message: Delete; rows of elements of more cells than one, known to the cell.
-/
import Derived.Test.YtjbmfmhibmnaiaaNtB
namespace Go.Proofs.Ytjbmfmhibmnaiaa
set_option linter.unusedVariables false
set_option maxRecDepth 100000
set_option linter.unusedSimpArgs false
open Go.RowKit

theorem infoMsg : (Try.prog.info? 48).map (fun i => (i.zero, i.size, i.bytes)) = some (some (.agg #[.int .i64 0, .int .i64 0, .int .i64 0, .int .i64 0, .slice none 0 0]), 5, 56) := by kernel_rfl
theorem zeroMsg (w : World) : (zeroValue 48).run Try.prog w = .ok (.agg #[.int .i64 0, .int .i64 0, .int .i64 0, .int .i64 0, .slice none 0 0]) w := by kernel_rfl
theorem own_rowS {w : World} {e : TypeId} {s g n cap m : Nat} {xs : List Value} (h : Own w e s (.slice (some ⟨g, 0, none⟩) n cap) m xs) : m = n ∧ n ≤ cap ∧ cap ≤ maxLen ∧ xs.length = n * s ∧ ∃ rest, RowAt w e g (xs ++ rest) ∧ (xs ++ rest).length = cap * s := by
  obtain ⟨h0, h2 | ⟨g', cap', cur, e2, _, hh, h1, h2, h3, h4⟩⟩ := h
  · simp at h2
  · simp at e2
    obtain ⟨rfl, rfl, rfl⟩ := e2
    have e5 : xs ++ cur.toList.drop (n * s) = cur.toList := by rw [← h4, List.take_append_drop]
    refine ⟨rfl, h1, h2, h0, cur.toList.drop (n * s), ?_, ?_⟩
    · unfold RowAt
      rw [e5]
      simpa using hh
    · rw [e5]
      simpa using h3
theorem RowAt.ownS {w : World} {e : TypeId} {s g n cap : Nat} {cur : List Value} (h : RowAt w e g cur) (h1 : n ≤ cap) (h2 : cap ≤ maxLen) (h3 : cur.length = cap * s) : Own w e s (.slice (some ⟨g, 0, none⟩) n cap) n (cur.take (n * s)) :=
  ⟨by have := Nat.mul_le_mul_right s h1; simp; omega, .inr ⟨g, cap, cur.toArray, rfl, Nat.zero_le _, h, h1, h2, by simpa using h3, by simp⟩⟩
section
variable {P : Program} (w : World)
/-- append within the room of a row, known to the cell. -/
theorem run_append_rowS (t ty e : TypeId) (i : TypeInfo) (s : Nat) (ht : P.underlying t = some (.slice e)) (hi : P.info? e = some i) (hsize : i.size = s) (g sLen sCap : Nat) (cur : List Value) (hg : RowAt w e g cur)
    (src : Value) (m : Nat) (news : List Value) (hl : news.length = m * s) (hsrc : ∃ a c, src = .slice a m c ∧ (0 < m → ∃ ad, a = some ad ∧ ∀ j u, news[j]? = some u → w.cell? (ad.add j) = some u)) (h1 : ∀ u ∈ news, u.oneCell' = true) (hroom : sLen + m ≤ sCap) (hfit : sLen * s + news.length ≤ cur.length) :
    (Builtin.append_ #[t, t] ty #[.slice (some ⟨g, 0, none⟩) sLen sCap, src]).run P w = .ok (.slice (some ⟨g, 0, none⟩) (sLen + m) sCap) (w.setRow g (cur.take (sLen * s) ++ news ++ cur.drop (sLen * s + news.length)).toArray) := by
  obtain ⟨a, c, rfl, hsrc⟩ := hsrc
  have hst := run_storeCells_at P g (sLen * s) e news 0 cur.toArray w hg (by simpa using hfit) h1
  have hf : (Builtin.firstCells s m (.slice a m c)).run P w = .ok news.toArray w := by
    by_cases h0 : 0 < m
    · obtain ⟨ad, rfl, hc⟩ := hsrc h0
      exact run_firstCells_some w s m ad m c news (by rw [hl]) hc
    · have hm : m = 0 := by omega
      subst hm
      have : news = [] := List.eq_nil_of_length_eq_zero (by simpa using hl)
      subst this
      cases a with
      | none => simp [Builtin.firstCells]
      | some ad => exact run_firstCells_some w s 0 ad 0 c [] (by simp) (by simp)
  have hadd : (⟨g, 0, none⟩ : Addr).add (sLen * s) = ⟨g, sLen * s, none⟩ := by unfold Addr.add; split <;> simp_all
  simp only [Nat.add_zero] at hst
  simp [Builtin.append_, run_underlying ht, sizeOf, typeInfo, hi, hsize, Builtin.lenOf, hroom, hf, hadd, hst]
/-- clear of a part of a row, known to the cell. -/
theorem run_clear_rowS (t ty e : TypeId) (z : Value) (ht : P.underlying t = some (.slice e)) (hv : ∀ w, (zeroValue e).run P w = .ok z w) (g o n c : Nat) (hn : 0 < n) (zs : List Value) (hz : (Builtin.zeroCells z.cells n).toList = zs) (h1 : ∀ u ∈ zs, u.oneCell' = true) (cur : List Value) (hg : RowAt w e g cur) (hfit : o + zs.length ≤ cur.length) :
    (Builtin.clear_ #[t] ty #[.slice (some ⟨g, o, none⟩) n c]).run P w = .ok (.tuple #[]) (w.setRow g (cur.take o ++ zs ++ cur.drop (o + zs.length)).toArray) := by
  have hst := run_storeCells_at P g o e zs 0 cur.toArray w hg (by simpa using hfit) h1
  simp only [Nat.add_zero] at hst
  obtain ⟨m, rfl⟩ : ∃ m, n = m + 1 := ⟨n - 1, by omega⟩
  simp [Builtin.clear_, run_underlying ht, hv, hz, hst]
end
theorem zeroMsgs (n : Nat) : ∀ u ∈ (Builtin.zeroCells (Value.agg #[.int .i64 0, .int .i64 0, .int .i64 0, .int .i64 0, .slice none 0 0]).cells n).toList, u.oneCell' = true := by
  intro u hu
  have hc : (Value.agg #[.int .i64 0, .int .i64 0, .int .i64 0, .int .i64 0, .slice none 0 0]).cells = #[.int .i64 0, .int .i64 0, .int .i64 0, .int .i64 0, .slice none 0 0] := by go_simp
  rw [hc] at hu
  simp only [Builtin.zeroCells, Array.toList_map, Array.toList_range, List.mem_map, List.mem_range] at hu
  obtain ⟨i, _, rfl⟩ := hu
  have h5 : i % 5 < 5 := Nat.mod_lt _ (by decide)
  show (#[Value.int IntKind.i64 0, Value.int IntKind.i64 0, Value.int IntKind.i64 0, Value.int IntKind.i64 0, Value.slice none 0 0][i % 5]!).oneCell' = true
  rcases (by omega : i % 5 = 0 ∨ i % 5 = 1 ∨ i % 5 = 2 ∨ i % 5 = 3 ∨ i % 5 = 4) with e | e | e | e | e <;> rw [e] <;> rfl
theorem zeroMsgs_len (n : Nat) : (Builtin.zeroCells (Value.agg #[.int .i64 0, .int .i64 0, .int .i64 0, .int .i64 0, .slice none 0 0]).cells n).toList.length = n * 5 := by
  have hc : (Value.agg #[.int .i64 0, .int .i64 0, .int .i64 0, .int .i64 0, .slice none 0 0]).cells = #[.int .i64 0, .int .i64 0, .int .i64 0, .int .i64 0, .slice none 0 0] := by go_simp
  rw [hc]
  simp [Builtin.zeroCells]

/-- What Delete leaves. -/
def NDelP (w : World) (g n cap i j : Nat) (cs : List Value) (e : Ending) (w' : World) : Prop :=
  e = .returned (.slice (some ⟨g, 0, none⟩) (i + (n - j)) cap) ∧ Own w' 48 5 (.slice (some ⟨g, 0, none⟩) (i + (n - j)) cap) (i + (n - j)) (cs.take (i * 5) ++ cs.drop (j * 5)) ∧ Keeps (fun k => k = g) w w'

set_option maxHeartbeats 1600000 in
theorem nt_delete {w : World} {g n cap : Nat} {cs : List Value} (h : Own w 48 5 (.slice (some ⟨g, 0, none⟩) n cap) n cs) (hone : ∀ u ∈ cs, u.oneCell' = true) (i j : Nat) (hij : i < j) (hj : j ≤ n) :
    Calls Try.prog 38 #[.slice (some ⟨g, 0, none⟩) n cap, .int .i64 i, .int .i64 j] w (NDelP w g n cap i j cs) := by
  obtain ⟨i0, hi, hz0, hz1, hz2⟩ := info_parts infoMsg
  obtain ⟨_, hnc, hcm, hxl, rest, hrow, hrl⟩ := own_rowS h
  simp only [maxLen] at hcm
  have hcm' : cap ≤ 9223372036854775807 := by omega
  obtain ⟨A, hA, hsrc⟩ : ∃ A : Addr, (if cap = j then some (⟨g, 0, none⟩ : Addr) else some ⟨g, j * 5, none⟩) = some A ∧ Hid (∀ t u, (cs.drop (j * 5))[t]? = some u → w.drew.cell? (A.add t) = some u) := by
    by_cases hcj : cap = j
    · refine ⟨⟨g, 0, none⟩, by simp [hcj], fun t u hu => ?_⟩
      have h0 : cs.drop (j * 5) = [] := List.drop_eq_nil_of_le (by omega)
      rw [h0] at hu
      simp at hu
    · refine ⟨⟨g, j * 5, none⟩, by simp [hcj], fun t u hu => ?_⟩
      have ht := (List.getElem?_eq_some_iff.1 hu).1
      rw [List.length_drop] at ht
      rw [show (⟨g, j * 5, none⟩ : Addr).add t = ⟨g, j * 5 + t, none⟩ by unfold Addr.add; split <;> simp_all]
      have := hrow.drew.cell (j * 5 + t)
      rw [this, List.getElem?_append_left (by omega), ← hu, List.getElem?_drop]
  obtain ⟨L1, hL1⟩ : ∃ L1 : List Value, L1 = (cs ++ rest).take (i * 5) ++ cs.drop (j * 5) ++ (cs ++ rest).drop (i * 5 + (cs.drop (j * 5)).length) := ⟨_, rfl⟩
  obtain ⟨zs, hzs⟩ : ∃ zs, zs = (Builtin.zeroCells (Value.agg #[.int .i64 0, .int .i64 0, .int .i64 0, .int .i64 0, .slice none 0 0]).cells (n - (i + (n - j)))).toList := ⟨_, rfl⟩
  have hzl : zs.length = (n - (i + (n - j))) * 5 := by rw [hzs]; exact zeroMsgs_len _
  obtain ⟨L2, hL2⟩ : ∃ L2 : List Value, L2 = L1.take ((i + (n - j)) * 5) ++ zs ++ L1.drop ((i + (n - j)) * 5 + zs.length) := ⟨_, rfl⟩
  obtain ⟨W1, hW1⟩ : ∃ W1, W1 = w.drew.setRow g L1.toArray := ⟨_, rfl⟩
  have hdl : (cs.drop (j * 5)).length = (n - j) * 5 := by rw [List.length_drop, hxl]; omega
  have hap : ∀ ty, (Builtin.append_ #[43, 43] ty #[.slice (some ⟨g, 0, none⟩) i cap, .slice (some A) (n - j) (cap - j)]).run Try.prog w.drew = .ok (.slice (some ⟨g, 0, none⟩) (i + (n - j)) cap) W1 := by
    intro ty
    rw [hW1, hL1]
    exact run_append_rowS w.drew _ ty _ i0 5 Try.underlying43 hi hz1 g i cap _ hrow.drew _ (n - j) (cs.drop (j * 5)) hdl ⟨_, _, rfl, fun _ => ⟨A, rfl, hsrc.out⟩⟩ (fun u hu => hone u (List.mem_of_mem_drop hu)) (by omega) (by rw [hdl, hrl]; omega)
  have hr1 : RowAt W1 48 g L1 := by rw [hW1]; exact hrow.drew.set _
  have hl1 : L1.length = cap * 5 := by
    rw [hL1]
    simp only [List.length_append, List.length_take, List.length_drop] at hrl hdl ⊢
    omega
  have hk1 : Keeps (fun k => k = g) w W1 := by
    rw [hW1]
    exact ((Keeps.refl _ w).drew).trans' (keeps_setRow _ g _)
  have hpre : ∀ tl, ((cs ++ rest).take (i * 5) ++ cs.drop (j * 5) ++ tl).take ((i + (n - j)) * 5) = cs.take (i * 5) ++ cs.drop (j * 5) := by
    intro tl
    rw [List.take_append_of_le_length (show i * 5 ≤ cs.length by omega)]
    refine List.take_left' ?_
    rw [List.length_append, hdl, List.length_take]
    omega
  have hcl0 : L2.length = cap * 5 := by
    rw [hL2]
    simp only [List.length_append, List.length_take, List.length_drop, hl1, hzl]
    omega
  have hcl : ∀ ty, (Builtin.clear_ #[43] ty #[.slice (some ⟨g, (i + (n - j)) * 5, none⟩) (n - (i + (n - j))) (cap - (i + (n - j)))]).run Try.prog W1 = .ok (.tuple #[]) (W1.setRow g L2.toArray) := fun ty => by
    rw [hL2]
    exact run_clear_rowS W1 _ ty _ _ Try.underlying43 zeroMsg g ((i + (n - j)) * 5) (n - (i + (n - j))) _ (by omega) zs hzs.symm (by rw [hzs]; exact zeroMsgs _) _ hr1 (by rw [hl1, hzl]; omega)
  have fin : NDelP w g n cap i j cs (.returned (.slice (some ⟨g, 0, none⟩) (i + (n - j)) cap)) (W1.setRow g L2.toArray) := by
    refine ⟨rfl, ?_, hk1.trans' (keeps_setRow _ g _)⟩
    have ho := (hr1.set L2).ownS (s := 5) (n := i + (n - j)) (cap := cap) (by omega) (by simp only [maxLen]; omega) hcl0
    have he : L2.take ((i + (n - j)) * 5) = cs.take (i * 5) ++ cs.drop (j * 5) := by
      rw [hL2, List.append_assoc, List.take_left' (by rw [List.length_take, hl1]; omega), hL1, hpre]
    rw [he] at ho
    exact ho
  have HAP := Lib.hid hap
  have HCL := Lib.hid hcl
  have HFIN := Lib.hid fin
  have hic : i ≤ cap := by omega
  have hjc : j ≤ cap := by omega
  have hne : ((i : Int) == j) = false := by simp; omega
  clear hap hcl fin hr1 hl1 hk1 hpre hW1 hrow hrl h hxl hL1 hL2 hcl0 hsrc hzl hzs hdl hone
  go_enter Try.func38, Try.ntmps38
  go_wp2_with fail
  go_still_tail 6, (by kernel_rfl)
  change wpList _ _ _ _ _ w.drew
  go_wp2_with (refine wpList_append2 _ rfl _ _ 43 43 rfl _ _ rfl rfl HAP.out ?_; have hcl := HCL.out)
  go_ret
  exact HFIN.out
end Go.Proofs.Ytjbmfmhibmnaiaa
