/-
  A call on both disks: Read.
-/
import Derived.Test.YtpckjinlopmbcaaFsDs
namespace Go.Proofs.Ytpckjinlopmbcaa
set_option linter.unusedVariables false
set_option maxRecDepth 100000
set_option linter.unusedSimpArgs false
open Go.RowKit Go.Maps
open Go.Proofs.YtpckjinlopmbcaaW.PrintLast
section
variable {Z : Nat → Prop} {W : World} {B bd br m : Nat} {S : FS}
set_option maxHeartbeats 3200000 in
theorem f_does_read (h : Two Z W B bd br m S S) (hM : MayI S) (hm : m < 1000) {nm nn : Int} {bs ks : List Int} {av ak : Option Addr} {cv ck : Nat} (n1 : (Lit.int .i64 nm).wf = true) (n2 : (Lit.int .i64 nn).wf = true) (hb : Rb W (.slice av bs.length cv) bs) (hk : Rd W (.slice ak ks.length ck) ks) (hbl : bs.length ≤ 300) (hkl : ks.length ≤ 300)
    (hbB : 0 < bs.length → ∀ k, (Value.slice av bs.length cv).ownBlock = some k → k < B) (hkB : 0 < ks.length → ∀ k, (Value.slice ak ks.length ck).ownBlock = some k → k < B)  :
    Calls Try.prog 23 #[.pointer (some ⟨bd, 0, none⟩), .pointer (some ⟨br, 0, none⟩), .agg #[.int .i64 1, .int .i64 nm, .int .i64 nn, .slice av bs.length cv, .slice ak ks.length ck]] W (DoesP Z W B bd br m) := by
  have hX0 : Below W.heap.size W (W.alloc (.cells #[.int .i64 1, .int .i64 nm, .int .i64 nn, .slice av bs.length cv, .slice ak ks.length ck] 40)) := (Below.refl _ _).alloc (Nat.le_refl _) _
  have hzX : (W.alloc (.cells #[.int .i64 1, .int .i64 nm, .int .i64 nn, .slice av bs.length cv, .slice ak ks.length ck] 40)).heap.size = W.heap.size + 1 := by simp
  have hT0 := h.below hX0
  rw [hzX] at hT0
  have hT : Two (boxZ Z W) (W.alloc (.cells #[.int .i64 1, .int .i64 nm, .int .i64 nn, .slice av bs.length cv, .slice ak ks.length ck] 40)) B bd br m S S := hT0
  have hTd : Two (boxZ Z W) (W.alloc (.cells #[.int .i64 1, .int .i64 nm, .int .i64 nn, .slice av bs.length cv, .slice ak ks.length ck] 40)).drew B bd br m S S := hT.keeps (F := fun _ => False) (Keeps.refl _ _).drew (fun _ h => h.elim)
  have kX : Keeps (fun _ => False) W (W.alloc (.cells #[.int .i64 1, .int .i64 nm, .int .i64 nn, .slice av bs.length cv, .slice ak ks.length ck] 40)) := (Keeps.refl _ _).alloc _
  have bx := Blk.new W #[.int .i64 1, .int .i64 nm, .int .i64 nn, .slice av bs.length cv, .slice ak ks.length ck] 40
  have c0 : (W.alloc (.cells #[.int .i64 1, .int .i64 nm, .int .i64 nn, .slice av bs.length cv, .slice ak ks.length ck] 40)).cell? ⟨W.heap.size, 0, none⟩ = some (.int .i64 1) := bx.cell 0
  have c1 : (W.alloc (.cells #[.int .i64 1, .int .i64 nm, .int .i64 nn, .slice av bs.length cv, .slice ak ks.length ck] 40)).cell? ⟨W.heap.size, 1, none⟩ = some (.int .i64 nm) := bx.cell 1
  have c2 : (W.alloc (.cells #[.int .i64 1, .int .i64 nm, .int .i64 nn, .slice av bs.length cv, .slice ak ks.length ck] 40)).cell? ⟨W.heap.size, 2, none⟩ = some (.int .i64 nn) := bx.cell 2
  have c3 : (W.alloc (.cells #[.int .i64 1, .int .i64 nm, .int .i64 nn, .slice av bs.length cv, .slice ak ks.length ck] 40)).cell? ⟨W.heap.size, 3, none⟩ = some (.slice av bs.length cv) := bx.cell 3
  have c4 : (W.alloc (.cells #[.int .i64 1, .int .i64 nm, .int .i64 nn, .slice av bs.length cv, .slice ak ks.length ck] 40)).cell? ⟨W.heap.size, 4, none⟩ = some (.slice ak ks.length ck) := bx.cell 4
  have nz : ¬ (¬ boxZ Z W W.heap.size ∧ B ≤ W.heap.size) := fun h => h.1 (.inr ⟨Nat.le_refl _, by omega⟩)
  have hI := h.disk.inv
  have hs := h.disk.small
  have hU := h.disk.used_le
  have hdoc := doc_of hI hs hM
  have hBs := h.1
  have hbX : Rb (W.alloc (.cells #[.int .i64 1, .int .i64 nm, .int .i64 nn, .slice av bs.length cv, .slice ak ks.length ck] 40)) (.slice av bs.length cv) bs := hb.below hX0 (Nat.le_refl _)
  have hkX : Rd (W.alloc (.cells #[.int .i64 1, .int .i64 nm, .int .i64 nn, .slice av bs.length cv, .slice ak ks.length ck] 40)) (.slice ak ks.length ck) ks := hk.below hX0 (Nat.le_refl _)
  have END := Lib.hid (fun w6 S' => does_end (Z := Z) (W := W) (B := B) (bd := bd) (br := br) (m := m) (S' := S') (w6 := w6) (X := W.alloc (.cells #[.int .i64 1, .int .i64 nm, .int .i64 nn, .slice av bs.length cv, .slice ak ks.length ck] 40)))
  have hlen : (S.read nm).1.length ≤ 300000 := by
    unfold FS.read
    split
    · exact hdoc.len _
    · exact Nat.zero_le _
  have hZ := h.2.1
  have HT := Lib.hid hT
  have HTD := Lib.hid hTd
  have HKX := Lib.hid kX
  have HBX := Lib.hid bx
  have HRB := Lib.hid hbX
  have HRK := Lib.hid hkX
  have HI := Lib.hid hdoc
  have HS := Lib.hid hs
  have HMAY := Lib.hid hM
  have HINV := Lib.hid hI
  clear hT hTd kX bx hbX hkX hdoc hs hM hX0 hI
  have HA := Lib.hid (td_read HT.out (n := nm) n1)
  have HR := Lib.hid (fun w5 (Z1 : Nat → Prop) (h5 : Two Z1 w5 B bd br m S S) => tr_read h5 HI.out nm)
  unfold ReadP at HA HR
  have HTM := Lib.hid (fun (Z1 : Nat → Prop) w5 (h5 : Two Z1 w5 B bd br m S S) => h5.mono (Nat.le_succ m) (by omega))
  generalize (S.read nm).1 = xb at *
  generalize (S.read nm).2 = ry at *
  clear h hT0 hb hk
  go_enter Try.func23, Try.ntmps23
  go_wp2_with (first
    | (go_at_call 16; refine HA.out.mono ?_; rintro e w5 ⟨v5, rfl, ho5, hf5, hb5⟩; obtain ⟨a5, k5, rfl⟩ := own_shape ho5; have hT5 := HT.out.below hb5; have HT5 := Lib.hid hT5; have HR5 := Lib.hid (HR.out w5 _ hT5); have g1 : w5.cell? ⟨W.heap.size, 1, none⟩ = some (.int .i64 nm) := (HBX.out.below hb5 HBX.out.lt).cell 1; have HO5 := Lib.hid ho5; have HB5 := Lib.hid hb5; have HG := Lib.hid (show ∀ q, (Value.slice a5 xb.length k5).ownBlock = some q → (W.alloc (.cells #[.int .i64 1, .int .i64 nm, .int .i64 nn, .slice av bs.length cv, .slice ak ks.length ck] 40)).heap.size ≤ q ∧ q < w5.heap.size from fun q hq => ⟨hf5 q hq, own_lt ho5 hq⟩); clear hT5 ho5 hf5 hb5)
    | (go_at_call 42; refine HR5.out.mono ?_; rintro e w6 ⟨v6, rfl, ho6, hf6, hb6⟩; obtain ⟨a6, k6, rfl⟩ := own_shape ho6; have ho56 := own_keeps HO5.out (Keeps.ofBelow (F := fun _ => False) hb6) (fun _ _ h => h); have s5 := rb_str (own_rb ho56); have s6 := rb_str (own_rb ho6); have HO56 := Lib.hid ho56; have HT6 := Lib.hid ((HT5.out.below hb6).less (fun q hq => .inl hq)); have HK6 := Lib.hid ((Keeps.ofBelow (F := fun _ => False) HB5.out).trans' (Keeps.ofBelow (hb6))); clear ho6 hf6 hb6 ho56)
    | go_in)
  clear s5 s6
  go_loopw [12] (fun kv wr => ∃ k : Nat, k ≤ xb.length ∧ kv = .int .i64 k ∧ (∃ ys : List Int, ys.length = xb.length ∧ Own wr 5 1 (.slice a5 xb.length k5) xb.length (byt ys)) ∧ Two (fun q => boxZ Z W q ∨ ((W.alloc (.cells #[.int .i64 1, .int .i64 nm, .int .i64 nn, .slice av bs.length cv, .slice ak ks.length ck] 40)).heap.size ≤ q ∧ q < w5.heap.size)) wr B bd br m S S ∧ Keeps (fun q => ¬ boxZ Z W q ∧ B ≤ q) (W.alloc (.cells #[.int .i64 1, .int .i64 nm, .int .i64 nn, .slice av bs.length cv, .slice ak ks.length ck] 40)) wr) (fun kv _ => xb.length - (intOf kv).toNat)
  case atStart => exact ⟨0, by omega, rfl, ⟨xb, rfl, HO56.out⟩, HT6.out, HK6.out.mono (fun _ h => h.elim)⟩
  case round =>
    obtain ⟨k, hk7, rfl, hO7, hT7, hK7⟩ := hrel
    by_cases hk8 : k < xb.length
    · obtain ⟨ys, hys, hoy⟩ := hO7
      obtain ⟨g, c', e3, -, -⟩ := own_open hoy (by omega)
      simp only [Value.slice.injEq, true_and] at e3
      obtain ⟨rfl, rfl⟩ := e3
      have y0 := (World.ownsRow.cellAt hoy k (by omega)).trans (byt_get ys k (by omega))
      have fy := World.ownsRow.frozenAt hoy k
      have d7 : decide ((k : Int) < (xb.length : Int)) = true := decide_eq_true (by omega)
      have k0 : (0 : Int) ≤ (k : Int) := by omega
      have k1 : (k : Int) < (xb.length : Int) := by omega
      have wk : IntKind.i64.wrap ((k : Int) + 1) = (k : Int) + 1 := IntWalk.i64_in _ (by omega)
      have hg := HG.out g rfl
      have kk : Keeps (fun q => q = g) wr (wr.setCell ⟨g, k, none⟩ (.int .u8 7)) := (Keeps.refl (fun q => q = g) wr).set g k (.inl rfl) _
      have FIN := Lib.hid (show (∃ zs : List Int, zs.length = xb.length ∧ Own (wr.setCell ⟨g, k, none⟩ (.int .u8 7)) 5 1 (.slice (some ⟨g, 0, none⟩) xb.length k5) xb.length (byt zs)) ∧ Two (fun q => boxZ Z W q ∨ ((W.alloc (.cells #[.int .i64 1, .int .i64 nm, .int .i64 nn, .slice av bs.length cv, .slice ak ks.length ck] 40)).heap.size ≤ q ∧ q < w5.heap.size)) (wr.setCell ⟨g, k, none⟩ (.int .u8 7)) B bd br m S S ∧ Keeps (fun q => ¬ boxZ Z W q ∧ B ≤ q) (W.alloc (.cells #[.int .i64 1, .int .i64 nm, .int .i64 nn, .slice av bs.length cv, .slice ak ks.length ck] 40)) (wr.setCell ⟨g, k, none⟩ (.int .u8 7)) from ⟨⟨ys.set k 7, by simpa using hys, by have := (World.ownsRow.stored hoy k (.int .u8 7)).1; simpa [byt, List.map_set] using this⟩, hT7.keeps kk (fun q e => by rw [e]; exact .inl (.inr hg)), hK7.trans' (kk.mono (fun q e => by
        rw [e]
        rw [hzX] at hg
        refine ⟨fun hz => ?_, by omega⟩
        rcases hz with hz | hz
        · have := hZ g hz; omega
        · omega))⟩)
      clear hoy hys hT7 hK7 kk hg
      go_wp2_with fail
      go_roundw
      case rel => exact ⟨k + 1, by omega, by go_num, FIN.out.1, FIN.out.2.1, FIN.out.2.2⟩
      case measure => simp [intOf]; omega
    · have hk9 : k = xb.length := by omega
      have d7 : decide ((k : Int) < (xb.length : Int)) = false := decide_eq_false (by omega)
      have F := Lib.hid (END.out wr S ((HTM.out _ _ hT7).less (fun q hq => .inl hq)) HMAY.out HKX.out hK7)
      clear hO7 hT7 hK7
      go_wp2_with fail
      go_ret
      simpa using F.out
end
end Go.Proofs.Ytpckjinlopmbcaa
