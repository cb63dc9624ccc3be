/-
  The document's disk: Read, Append.
-/
import Derived.Test.YtpckjinlopmbcaaFrM3
namespace Go.Proofs.Ytpckjinlopmbcaa
set_option linter.unusedVariables false
set_option maxRecDepth 100000
set_option linter.unusedSimpArgs false
open Go.RowKit Go.Maps
open Go.Proofs.YtpckjinlopmbcaaW.PrintLast
/-- Bytes put behind a row, in a region that draws. -/
theorem append_b_ {ops : Array Oper} {Q : Exit → Act → World → Prop} {oi : Oper} {N : Option Tmp} {a : Act} {w : World} {K : Act → World → Prop} (hg : oi.guard = none) (hN : oi.dst = N) (s x : Operand)
    (ho : oi.op = .call { callee := .builtin .append, args := #[s, x], argTypes := #[22, 22] }) (v : Value) (xs : List Int) (hs : a.eval s = v) (hown : Own w 5 1 v xs.length (byt xs)) (u : Value) (L : List Int) (hx : a.eval x = u) (hrd : Rb w u L) (hl : xs.length + L.length ≤ 1073741824)
    (h : ∀ v' w', Own w' 5 1 v' (xs ++ L).length (byt (xs ++ L)) → w.grownBy w' v.ownBlock → (∀ k, v'.ownBlock = some k → v.ownBlock = some k ∨ w.heap.size ≤ k) → K (a.put N v') w') :
    if Region.wanted oi (yielded ops a.tmps) = true then Oper.wp Try.prog oi a w K Q else K (a.put N undef) w := by
  obtain ⟨i0, hi, hz0, hz1, hz2⟩ := info_parts infoB
  obtain ⟨ao, c, rfl, hnews⟩ := hrd.news
  cases ao with
  | none =>
    obtain rfl : L = [] := by
      obtain ⟨a', c', e, _, _, h3⟩ := hrd
      simp only [Value.slice.injEq] at e
      rcases L with _ | ⟨y, L⟩
      · rfl
      · obtain ⟨b, o', e', _⟩ := h3 (by simp)
        rw [← e.1] at e'
        cases e'
    have hrun : ∀ ty, (Builtin.append_ #[22, 22] ty #[v, .slice none 0 c]).run Try.prog w = .ok v w := fun ty => by
      rcases hown.2 with ⟨rfl, e0⟩ | ⟨g, cap, cur, rfl, _, _, hnc, _⟩
      · simp [Builtin.append_, run_underlying Try.underlying22, sizeOf, typeInfo, hi, hz1, Builtin.lenOf, Builtin.firstCells, e0]
      · simp [Builtin.append_, run_underlying Try.underlying22, sizeOf, typeInfo, hi, hz1, Builtin.lenOf, Builtin.firstCells, hnc, storeCells]
    refine value_ (w1 := w) (v := v) ?_ hN ?_ (h v w (by rw [List.append_nil]; exact hown) ⟨rfl, rfl, rfl, Nat.le_refl _, fun _ _ _ => rfl⟩ (fun k hk => .inl hk))
    · unfold Region.wanted; rw [hg]
    · unfold execOp
      simp only [ho, resolve, invoke, builtin, Sem.run_bind, Sem.run_pure, Result.andThen_ok, List.map_toArray, List.map_cons, List.map_nil, hs, hx, List.length_nil, hrun]
  | some ad =>
    obtain ⟨v', w', hr, h2, h3, h4, h5⟩ := run_append_own_at (P := Try.prog) w 0 22 oi.type 5 i0 (.int .u8 0) 1 1 Try.underlying22 hi hz0 hz1 hz2 rfl (by decide) v xs.length (byt xs) hown ad L.length c (byt L) (by simp [byt]) (hnews ad rfl) (byt_one _) (by simp only [maxLen]; omega) (by omega) (Nat.zero_le _)
    refine value_ (w1 := w') (v := v') ?_ hN ?_ (h v' w' (by rw [List.length_append]; simpa [byt] using h2) h3 (fun k hk => ?_))
    · unfold Region.wanted; rw [hg]
    · unfold execOp
      simp only [ho, resolve, invoke, builtin, Sem.run_bind, Sem.run_pure, Result.andThen_ok, List.map_toArray, List.map_cons, List.map_nil, hs, hx, hr]
    · rcases h5 with e | e
      · exact .inl (e ▸ hk)
      · rw [e] at hk; exact .inr (by have := Option.some.inj hk; omega)
theorem infoFP : (Try.prog.info? 82).map (fun i => (i.zero, i.size, i.bytes)) = some (some (.pointer none), 1, 8) := by kernel_rfl
section
variable {w w5 W : World} {fp fp' : Nat → Prop} {R R' : RRef} {S : FS} {base br m : Nat}
set_option maxHeartbeats 1600000 in
theorem r_read (h : RRep w base fp br R S) (hI : DocI S) (n : Int) : Calls Try.prog 42 #[.pointer (some ⟨br, 0, none⟩), .int .i64 n] w (ReadP w S n) := by
  have c4 : w.cell? ⟨br, 4, none⟩ = some (.bool S.out) := h.blk.cell 4
  have HH := Lib.hid h
  have HF := Lib.hid (r_find h hI n)
  unfold ReadP
  cases ho : S.out with
  | true =>
    rw [ho] at c4
    rw [out_read ho]
    clear h hI
    go_enter Try.func42, Try.ntmps42
    go_wp2
    go_ret2
    exact ⟨_, rfl, World.ownsRow_nil .., by simp [Value.ownBlock], Below.refl _ _⟩
  | false =>
    rw [ho] at c4
    cases ha : atD S.now n with
    | none =>
      have e2 : S.read n = ([], 8) := by unfold FS.read; rw [why_none ho ha, if_neg (by decide)]
      rw [e2]
      rw [findR_none ha] at HF
      clear h hI e2
      go_enter Try.func42, Try.ntmps42
      go_wp2_with (first | (go_at_call 55; refine HF.out.mono ?_; rintro e w5 ⟨rfl, hb5⟩) | go_in)
      go_ret2
      exact ⟨_, rfl, World.ownsRow_nil .., by simp [Value.ownBlock], hb5⟩
    | some f =>
      have e2 : S.read n = ((S.files f).b, 0) := by unfold FS.read FS.fid; rw [if_pos (why_some ho ha), ha]; rfl
      rw [e2]
      rw [findR_some ha] at HF
      have hf : f < S.many := hI.inv.lt _ (.inl (atD_some ha))
      have hml := hI.ml
      have hfl := hI.len f
      have d0 : decide ((f : Int) < 0) = false := decide_eq_false (by omega)
      have f0 : (0 : Int) ≤ (f : Int) := by omega
      have f1 : (f : Int) < (S.many : Int) := by omega
      obtain ⟨gF, cF, eF, hcF1, hcF2⟩ := own_open h.parts.fown (by omega)
      obtain ⟨fa, fc, efv⟩ := own_shape (h.parts.files.own f hf)
      simp only
      clear h hI e2 ha ho
      go_enter Try.func42, Try.ntmps42
      go_wp2_with (first
        | (go_at_call 55; refine HF.out.mono ?_; rintro e w5 ⟨rfl, hb5⟩; have h5 := HH.out.below hb5; have c1 : w5.cell? ⟨br, 1, none⟩ = some R.vF := h5.blk.cell 1; have hFo := h5.parts.fown; rw [eF] at c1 hFo; have p1 := (World.ownsRow.cellAt hFo f (by omega)).trans (ptrsF_get hf); have q0 : w5.cell? ⟨R.fb f, 0, none⟩ = some (R.fv f) := (h5.parts.files.blk f hf).cell 0; have HO5 := Lib.hid (own_rb (h5.parts.files.own f hf)); rw [efv] at q0 HO5; clear h5 hFo)
        | (at_builtin; refine wpList_bcopy_nil rfl _ _ rfl rfl (.slice fa (S.files f).b.length fc) (S.files f).b rfl HO5.out (by omega) ?_; intro v6 w6 hO6 hg6 hat6)
        | go_in)
      go_ret2
      have k6 := keeps_grown (Keeps.refl (fun _ => False) w5) hg6
      exact ⟨v6, rfl, hO6, fun k hk => by have := hat6 k hk; have := hb5.size; omega, hb5.trans (k6.below (fun _ h => h.elim) hb5.size)⟩
/-- The end of Append. -/
theorem r_app_end {w2 : World} {fp1 : Nat → Prop} {R1 : RRef} {S1 : FS} (h1 : RRep W base fp1 br R1 S1) (hs : Small S1 (m + 1)) (ho : S1.out = false) (hd : fp br) (hw0 : base ≤ w.heap.size) (hws : w.heap.size ≤ W.heap.size) (k1 : Keeps fp w W) (hi : ∀ k, k < w.heap.size → (fp1 k ↔ fp k)) {f : Nat} (hf : f < S1.many) {bs : List Int} (hl : ((S1.files f).b ++ bs).length ≤ 300 * (m + 1)) {v' : Value}
    (hown : Own w2 5 1 v' ((S1.files f).b ++ bs).length (byt ((S1.files f).b ++ bs))) (g : W.grownBy w2 (R1.fv f).ownBlock) (hat : ∀ k, v'.ownBlock = some k → (R1.fv f).ownBlock = some k ∨ W.heap.size ≤ k) :
    Calls Try.prog 56 #[.pointer (some ⟨br, 0, none⟩)] (w2.setCell ⟨R1.fb f, 0, none⟩ v') fun e w3 => e = .returned (.tuple #[]) ∧ ∀ v, RPost w base fp br (S1.setF f ⟨(S1.files f).b ++ bs, (S1.files f).kept⟩).did v (.returned v) w3 := by
  have P := h1.parts
  have hB := P.files.blk f hf
  have hO := P.files.own f hf
  have kg : Keeps (fun q => (R1.fv f).ownBlock = some q) W w2 := (Keeps.refl _ W).grown g (fun k e => .inl e)
  have hB2 : Blk w2 (R1.fb f) #[R1.fv f, .int .i64 (S1.files f).kept] 81 := hB.keeps kg (fun e => own_blk_ne hO hB (by decide) e)
  have k2 : Keeps (fun q => q = R1.fb f ∨ (R1.fv f).ownBlock = some q) W (w2.setCell ⟨R1.fb f, 0, none⟩ v') := (kg.mono (fun q e => .inr e)).trans' ((Keeps.one w2 ⟨R1.fb f, 0, none⟩ v').mono (fun q e => .inl e))
  have hD := h1.setF (by omega) hf k2 (fun q e => e) v' ⟨(S1.files f).b ++ bs, (S1.files f).kept⟩ (by simpa using hB2.set 0 v') (own_set hown hB2 (by decide) 0 v') hat
  refine r_did_end hD (hs.setF f _ hl) ho hd (k1.trans k2 (fun q e => ?_)) (fun k hk => (fpAll_iff (by omega)).trans (hi k hk))
  have hq : fp1 q := by
    rcases e with e | e
    · rw [e]; exact P.files.fpb f hf
    · exact P.files.fpv f q hf e
  by_cases hlt : q < w.heap.size
  · exact .inl ((hi q hlt).1 hq)
  · exact .inr (by omega)
/-- A file more, in the middle of Append. -/
theorem r_file_mid (h : RRep w base fp br R S) (hw : base ≤ w.heap.size) {v6 : Value} {w6 : World} (hown : Own w6 82 1 v6 (S.many + 1) (ptrsF R.fb S.many ++ [.pointer (some ⟨w.heap.size, 0, none⟩)]))
    (hg : ((w.alloc (.cells #[.slice none 0 0, .int .i64 0] 81)).alloc (.cells #[.pointer (some ⟨w.heap.size, 0, none⟩)] 82)).grownBy w6 R.vF.ownBlock)
    (hat : v6.ownBlock = R.vF.ownBlock ∨ v6.ownBlock = some ((w.alloc (.cells #[.slice none 0 0, .int .i64 0] 81)).alloc (.cells #[.pointer (some ⟨w.heap.size, 0, none⟩)] 82)).heap.size) :
    w6.cell? ⟨br, 1, none⟩ = some R.vF ∧ w6.frozen? ⟨br, 1, none⟩ = false ∧ ∃ fp7 R7, RRep (w6.setCell ⟨br, 1, none⟩ v6) base fp7 br R7 S.more ∧ (∀ k, k < w.heap.size → (fp7 k ↔ fp k)) ∧ Keeps fp w (w6.setCell ⟨br, 1, none⟩ v6) ∧ R7.vW = R.vW := by
  have hz : ((w.alloc (.cells #[.slice none 0 0, .int .i64 0] 81)).alloc (.cells #[.pointer (some ⟨w.heap.size, 0, none⟩)] 82)).heap.size = w.heap.size + 1 + 1 := by simp
  have kg : Keeps (fun q => R.vF.ownBlock = some q) w w6 := (((Keeps.refl _ w).alloc _).alloc _).grown hg (fun k e => .inl e)
  have hB6 : Blk w6 br (rdV R S) 55 := h.blk.keeps kg (fun e => own_blk_ne h.parts.fown h.blk (by decide) e)
  have hfl : Blk w6 w.heap.size #[.slice none 0 0, .int .i64 0] 81 := by
    have h0 : Blk ((w.alloc (.cells #[.slice none 0 0, .int .i64 0] 81)).alloc (.cells #[.pointer (some ⟨w.heap.size, 0, none⟩)] 82)) w.heap.size #[.slice none 0 0, .int .i64 0] 81 := (Blk.new w _ _).alloc _
    exact (hg.block w.heap.size (by omega) (fun e => by have := own_lt h.parts.fown e.symm; omega)).trans h0
  have k1 := Keeps.one w6 ⟨br, 1, none⟩ v6
  have k : Keeps (fun q => R.vF.ownBlock = some q ∨ q = br) w (w6.setCell ⟨br, 1, none⟩ v6) := (kg.mono (fun q e => .inl e)).trans' (k1.mono (fun q e => .inr e))
  refine ⟨hB6.cell 1, hB6.frozen 1, _, _, h.file hw (vF' := v6) k (q0 := w.heap.size) (Nat.le_refl _) (hfl.keeps k1 (fun e => blk_ne hfl hB6 (by decide) e)) (by simpa [rdV] using hB6.set 1 v6) (own_set hown hB6 (by decide) 1 v6) (fun q hq => ?_), fun k hk => fpAll_iff hk, k.mono (fun q e => ?_), rfl⟩
  · rcases hat with e | e
    · exact .inl (e ▸ hq)
    · rw [e] at hq; have := Option.some.inj hq; exact .inr (by omega)
  · rcases e with e | e
    · exact h.parts.fpF q e
    · rw [e]; exact h.fpd
/-- A change more, in the middle of Append. -/
theorem r_wait_mid (h : RRep w base fp br R S) (hw : base ≤ w.heap.size) {c : Chg} {cs : Array Value} {v' : Value} {w6 : World} (hown : Own w6 87 3 v' (S.waits.length + 1) (chC (S.waits ++ [c]))) (hg : (w.alloc (.cells cs 87)).grownBy w6 R.vW.ownBlock)
    (hat : ∀ k, v'.ownBlock = some k → R.vW.ownBlock = some k ∨ (w.alloc (.cells cs 87)).heap.size ≤ k) :
    w6.cell? ⟨br, 3, none⟩ = some R.vW ∧ w6.frozen? ⟨br, 3, none⟩ = false ∧ ∃ fp7 R7, RRep (w6.setCell ⟨br, 3, none⟩ v') base fp7 br R7 (S.change c) ∧ (∀ k, k < w.heap.size → (fp7 k ↔ fp k)) ∧ Keeps fp w (w6.setCell ⟨br, 3, none⟩ v') := by
  have hz : w.heap.size ≤ (w.alloc (.cells cs 87)).heap.size := by simp
  have kg : Keeps (fun q => R.vW.ownBlock = some q) w w6 := ((Keeps.refl _ w).alloc _).grown hg (fun k e => .inl e)
  have hB6 : Blk w6 br (rdV R S) 55 := h.blk.keeps kg (fun e => own_blk_ne h.parts.waits h.blk (by decide) e)
  have k1 := Keeps.one w6 ⟨br, 3, none⟩ v'
  have k : Keeps (fun q => R.vW.ownBlock = some q ∨ q = br) w (w6.setCell ⟨br, 3, none⟩ v') := (kg.mono (fun q e => .inl e)).trans' (k1.mono (fun q e => .inr e))
  refine ⟨hB6.cell 3, hB6.frozen 3, _, _, h.wait hw c (vW' := v') k (by simpa [rdV, FS.change] using hB6.set 3 v') (own_set hown hB6 (by decide) 3 v') (fun q hq => (hat q hq).imp id (fun h => by omega)), fun k hk => fpAll_iff hk, k.mono (fun q e => ?_)⟩
  rcases e with e | e
  · exact h.parts.fpW q e
  · rw [e]; exact h.fpd
theorem wpList_fapp {w : World} {ops : Array Oper} {rest : List Oper} {o : Oper} {a : Act} {Q : Exit → Act → World → Prop} (hgd : o.guard = none) (s x : Operand)
    (ho : o.op = .call { callee := .builtin .append, args := #[s, x], argTypes := #[52, 52] }) (v : Value) (n : Nat) (xs : List Value) (hs : a.eval s = v) (hown : Own w 82 1 v n xs) (y : Value) (g c : Nat) (hx : a.eval x = .slice (some ⟨g, 0, none⟩) 1 c) (hy : y.oneCell' = true)
    (hB : ∀ j u, [y][j]? = some u → w.cell? ((⟨g, 0, none⟩ : Addr).add j) = some u) (hl : n ≤ 1000000)
    (h : ∀ v' w', Own w' 82 1 v' (n + 1) (xs ++ [y]) → w.grownBy w' v.ownBlock → (v'.ownBlock = v.ownBlock ∨ v'.ownBlock = some w.heap.size) → wpList Try.prog ops Q rest (a.put o.dst v') w') : wpList Try.prog ops Q (o :: rest) a w := by
  obtain ⟨i0, hi, hz0, hz1, hz2⟩ := info_parts infoFP
  exact wpList_append_own_at w hgd s x 52 ho 0 82 i0 (.pointer none) 1 8 Try.underlying52 hi hz0 hz1 hz2 rfl (by decide) v n xs hs hown ⟨g, 0, none⟩ 1 c [y] hx (by simp) hB (by intro u hu; simp at hu; subst hu; exact hy) (by simp only [maxLen]; omega) (by omega) (Nat.zero_le _) (fun v' w' h1 h2 _ h4 => h v' w' h1 h2 h4)
set_option maxHeartbeats 3200000 in
theorem r_append_out (h : RRep w base fp br R S) (hI : DocI S) (hsm : Small S m) (hm : m < 1000) (hU : S.used ≤ 300000000) (hw0 : base ≤ w.heap.size) {n : Int} {v : Value} {bs : List Int} (hv : Rb w v bs) (hbl : bs.length ≤ 300) (hd : 0 < bs.length → ∀ k, v.ownBlock = some k → ¬ fp k) (ho : S.out = true) :
    Calls Try.prog 41 #[.pointer (some ⟨br, 0, none⟩), .int .i64 n, v] w (RPost w base fp br (S.append n bs).1 (.int .i64 (S.append n bs).2)) := by
  have c4 : w.cell? ⟨br, 4, none⟩ = some (.bool S.out) := h.blk.cell 4
  have c0 : w.cell? ⟨br, 0, none⟩ = some (.int .i64 S.room) := h.blk.cell 0
  obtain ⟨va, vc, rfl⟩ : ∃ a c, v = .slice a bs.length c := by obtain ⟨a, c, e, _⟩ := id hv; exact ⟨a, c, e⟩
  have HH := Lib.hid h
  rw [ho] at c4
  rw [out_append ho]
  clear h hI hv hd hsm
  go_enter Try.func41, Try.ntmps41
  go_wp2
  go_ret
  exact HH.out.still (Below.refl _ _)
set_option maxHeartbeats 3200000 in
theorem r_append_may (h : RRep w base fp br R S) (hI : DocI S) (hsm : Small S m) (hm : m < 1000) (hU : S.used ≤ 300000000) (hw0 : base ≤ w.heap.size) {n : Int} {v : Value} {bs : List Int} (hv : Rb w v bs) (hbl : bs.length ≤ 300) (hd : 0 < bs.length → ∀ k, v.ownBlock = some k → ¬ fp k) (ho : S.out = false) (hmy : ¬ mayN n) :
    Calls Try.prog 41 #[.pointer (some ⟨br, 0, none⟩), .int .i64 n, v] w (RPost w base fp br (S.append n bs).1 (.int .i64 (S.append n bs).2)) := by
  have c4 : w.cell? ⟨br, 4, none⟩ = some (.bool S.out) := h.blk.cell 4
  have c0 : w.cell? ⟨br, 0, none⟩ = some (.int .i64 S.room) := h.blk.cell 0
  obtain ⟨va, vc, rfl⟩ : ∃ a c, v = .slice a bs.length c := by obtain ⟨a, c, e, _⟩ := id hv; exact ⟨a, c, e⟩
  have HH := Lib.hid h
  rw [ho] at c4
  have e2 : S.append n bs = (S, 1) := by unfold FS.append; rw [if_neg (by rw [ho]; simp), if_pos hmy]
  rw [e2]
  have hM' : ∀ W, Calls Try.prog 54 #[.int .i64 n] W fun e w' => e = .returned (.bool false) ∧ W = w' := fun W => by have := r_may W n; rw [decide_eq_false hmy] at this; exact this.mono (fun e w' h => ⟨h.1, h.2.symm⟩)
  clear h hI e2 hv hd hsm hmy
  go_enter Try.func41, Try.ntmps41
  go_wp2_with (first | (go_at_call 54; refine (hM' _).mono ?_; rintro e w2 ⟨rfl, rfl⟩) | go_in)
  go_ret
  exact HH.out.still (Below.refl _ _)
set_option maxHeartbeats 3200000 in
theorem r_append_room (h : RRep w base fp br R S) (hI : DocI S) (hsm : Small S m) (hm : m < 1000) (hU : S.used ≤ 300000000) (hw0 : base ≤ w.heap.size) {n : Int} {v : Value} {bs : List Int} (hv : Rb w v bs) (hbl : bs.length ≤ 300) (hd : 0 < bs.length → ∀ k, v.ownBlock = some k → ¬ fp k) (ho : S.out = false) (hmy : mayN n) (hr : S.room < S.used + bs.length) :
    Calls Try.prog 41 #[.pointer (some ⟨br, 0, none⟩), .int .i64 n, v] w (RPost w base fp br (S.append n bs).1 (.int .i64 (S.append n bs).2)) := by
  have c4 : w.cell? ⟨br, 4, none⟩ = some (.bool S.out) := h.blk.cell 4
  have c0 : w.cell? ⟨br, 0, none⟩ = some (.int .i64 S.room) := h.blk.cell 0
  obtain ⟨va, vc, rfl⟩ : ∃ a c, v = .slice a bs.length c := by obtain ⟨a, c, e, _⟩ := id hv; exact ⟨a, c, e⟩
  have HH := Lib.hid h
  rw [ho] at c4
  have e2 : S.append n bs = (S, 10) := by unfold FS.append; rw [if_neg (by rw [ho]; simp), if_neg (fun h => h hmy), if_pos hr]
  rw [e2]
  have hM' : ∀ W, Calls Try.prog 54 #[.int .i64 n] W fun e w' => e = .returned (.bool true) ∧ W = w' := fun W => by have := r_may W n; rw [decide_eq_true hmy] at this; exact this.mono (fun e w' h => ⟨h.1, h.2.symm⟩)
  have HU := Lib.hid (r_used h.drew hI hU)
  generalize S.used = us at *
  have wz : IntKind.i64.wrap ((us : Int) + (bs.length : Int)) = (us : Int) + bs.length := IntWalk.i64_in _ (by omega)
  have dr : decide (S.room < (us : Int) + bs.length) = true := decide_eq_true hr
  clear h hI e2 hv hd hsm hmy hr
  go_enter Try.func41, Try.ntmps41
  go_wp2_with (first | (go_at_call 54; refine (hM' _).mono ?_; rintro e w2 ⟨rfl, rfl⟩) | go_in)
  refine start_ (n := 10) (S := fun w' => w'.cell? ⟨br, 0, none⟩ = some (.int .i64 S.room)) (ds := []) #[false, false, false, false, false, false, false, false, false, false] (by kernel_rfl) rfl rfl (c0) (fun hHeld => ?_)
  refine pure_ (i := 0) (N := some 17) (v := ?_) (a' := ?_) #[true, false, false, false, false, false, false, false, false, false] rfl rfl (by kernel_rfl) (fun _ _ _ h => h) (Or.inl ⟨by rfl, ?_⟩) ?_ ?_
  rotate_left
  · intro w'
    go_simp
    with_reducible rfl
  rotate_left
  · simp only [Act.put, List.setIfInBounds_toArray, List.set_cons_zero, List.set_cons_succ, i64_w, i32_w]
    rfl
  refine pure_ (i := 2) (N := some 19) (v := ?_) (a' := ?_) #[true, false, true, false, false, false, false, false, false, false] rfl rfl (by kernel_rfl) (fun _ _ _ h => h) (Or.inl ⟨by rfl, ?_⟩) ?_ ?_
  rotate_left
  · intro w'
    go_simp
    with_reducible rfl
  rotate_left
  · simp only [Act.put, List.setIfInBounds_toArray, List.set_cons_zero, List.set_cons_succ, i64_w, i32_w]
    rfl
  refine pure_ (i := 3) (N := some 20) (v := ?_) (a' := ?_) #[true, false, true, true, false, false, false, false, false, false] rfl rfl (by kernel_rfl) (fun _ _ _ h => h) (Or.inl ⟨by rfl, ?_⟩) ?_ ?_
  rotate_left
  · intro w'
    go_simp
    with_reducible rfl
  rotate_left
  · simp only [Act.put, List.setIfInBounds_toArray, List.set_cons_zero, List.set_cons_succ, i64_w, i32_w]
    rfl
  refine pure_ (i := 5) (N := some 22) (v := ?_) (a' := ?_) #[true, false, true, true, false, true, false, false, false, false] rfl rfl (by kernel_rfl) (fun _ _ _ h => h) (Or.inl ⟨by rfl, ?_⟩) ?_ ?_
  rotate_left
  · intro w'
    go_simp
    with_reducible rfl
  rotate_left
  · simp only [Act.put, List.setIfInBounds_toArray, List.set_cons_zero, List.set_cons_succ, i64_w, i32_w]
    rfl
  refine pure_ (i := 6) (N := some 23) (v := ?_) (a' := ?_) #[true, false, true, true, false, true, true, false, false, false] rfl rfl (by kernel_rfl) (fun _ _ _ h => h) (Or.inl ⟨by rfl, ?_⟩) ?_ ?_
  rotate_left
  · intro w'
    go_simp
    with_reducible rfl
  rotate_left
  · simp only [Act.put, List.setIfInBounds_toArray, List.set_cons_zero, List.set_cons_succ, i64_w, i32_w]
    rfl
  refine pure_ (i := 7) (N := some 24) (v := ?_) (a' := ?_) #[true, false, true, true, false, true, true, true, false, false] rfl rfl (by kernel_rfl) (fun _ _ _ h => h) (Or.inl ⟨by rfl, ?_⟩) ?_ ?_
  rotate_left
  · intro w'
    go_simp
    with_reducible rfl
  rotate_left
  · simp only [Act.put, List.setIfInBounds_toArray, List.set_cons_zero, List.set_cons_succ, i64_w, i32_w]
    rfl
  refine take_ (i := 8) (N := some 25) (v := ?_) (a' := ?_) #[true, false, true, true, false, true, true, true, true, false] rfl rfl (by kernel_rfl) (fun _ _ _ h => h) (Or.inl ⟨by rfl, ?_⟩) hHeld ?_ ?_
  rotate_left
  · intro w' s0
    go_simp
    with_reducible rfl
  rotate_left
  · simp only [Act.put, List.setIfInBounds_toArray, List.set_cons_zero, List.set_cons_succ, i64_w, i32_w]
    rfl
  refine one_ (i := 1) (N := some 18) #[true, true, true, true, false, true, true, true, true, false] rfl rfl (by kernel_rfl) (by decide) (fun K hK => ?_)
  refine goes_ Try.func26 (by kernel_rfl) rfl #[.pointer (some ⟨br, 0, none⟩)] (by rfl) rfl rfl (by simp only [List.map_toArray, List.map_cons, List.map_nil]; rfl) ?_
  with_reducible refine (HU.out).mono ?_
  rintro e w3 ⟨rfl, hb3⟩
  refine ⟨_, rfl, ?_⟩
  try clear hHeld
  refine hK.out _ _ (((Keeps.ofBelow (F := fun _ => False) hb3).cellSome (fun h => h) c0)) (fun hHeld => ?_)
  clear hK K
  refine norm_ (a' := ?_) ?_ ?_
  rotate_left
  · show Act.put _ (some 18) _ = _
    simp only [Act.put, List.setIfInBounds_toArray, List.set_cons_zero, List.set_cons_succ, i64_w, i32_w]
    rfl
  refine pure_ (i := 4) (N := some 21) (v := ?_) (a' := ?_) #[true, true, true, true, true, true, true, true, true, false] rfl rfl (by kernel_rfl) (fun _ _ _ h => h) (Or.inl ⟨by rfl, ?_⟩) ?_ ?_
  rotate_left
  · intro w'
    go_simp
    with_reducible rfl
  rotate_left
  · simp only [Act.put, List.setIfInBounds_toArray, List.set_cons_zero, List.set_cons_succ, i64_w, i32_w]
    rfl
  refine pure_ (i := 9) (N := some 26) (v := ?_) (a' := ?_) #[true, true, true, true, true, true, true, true, true, true] rfl rfl (by kernel_rfl) (fun _ _ _ h => h) (Or.inl ⟨by rfl, ?_⟩) ?_ ?_
  rotate_left
  · intro w'
    go_simp
    with_reducible rfl
  rotate_left
  · simp only [Act.put, List.setIfInBounds_toArray, List.set_cons_zero, List.set_cons_succ, i64_w, i32_w]
    rfl
  try clear hHeld
  refine done_ (by kernel_rfl) ?_
  go_wp2_with fail
  go_ret
  exact HH.out.still ((Below.refl _ w).drew.trans hb3)
set_option maxHeartbeats 3200000 in
theorem r_append_there (h : RRep w base fp br R S) (hI : DocI S) (hsm : Small S m) (hm : m < 1000) (hU : S.used ≤ 300000000) (hw0 : base ≤ w.heap.size) {n : Int} {v : Value} {bs : List Int} (hv : Rb w v bs) (hbl : bs.length ≤ 300) (hd : 0 < bs.length → ∀ k, v.ownBlock = some k → ¬ fp k) (ho : S.out = false) (hmy : mayN n) (hr : ¬ S.room < S.used + bs.length) {f : Nat} (ha : atD S.now n = some f) :
    Calls Try.prog 41 #[.pointer (some ⟨br, 0, none⟩), .int .i64 n, v] w (RPost w base fp br (S.append n bs).1 (.int .i64 (S.append n bs).2)) := by
  have c4 : w.cell? ⟨br, 4, none⟩ = some (.bool S.out) := h.blk.cell 4
  have c0 : w.cell? ⟨br, 0, none⟩ = some (.int .i64 S.room) := h.blk.cell 0
  obtain ⟨va, vc, rfl⟩ : ∃ a c, v = .slice a bs.length c := by obtain ⟨a, c, e, _⟩ := id hv; exact ⟨a, c, e⟩
  have HH := Lib.hid h
  rw [ho] at c4
  have e2 : S.append n bs = ((S.setF f ⟨(S.files f).b ++ bs, (S.files f).kept⟩).did, 0) := by unfold FS.append; rw [if_neg (by rw [ho]; simp), if_neg (fun h => h hmy), if_neg hr]; unfold FS.mkF; rw [if_neg (by rw [ha]; simp)]; unfold FS.add FS.fid; rw [ha]; rfl
  rw [e2]
  have hM' : ∀ W, Calls Try.prog 54 #[.int .i64 n] W fun e w' => e = .returned (.bool true) ∧ W = w' := fun W => by have := r_may W n; rw [decide_eq_true hmy] at this; exact this.mono (fun e w' h => ⟨h.1, h.2.symm⟩)
  have HU := Lib.hid (r_used h.drew hI hU)
  generalize S.used = us at *
  have wz : IntKind.i64.wrap ((us : Int) + (bs.length : Int)) = (us : Int) + bs.length := IntWalk.i64_in _ (by omega)
  have HF : Hid (∀ W, Below w.heap.size w W → Calls Try.prog 55 #[.pointer (some ⟨br, 0, none⟩), .int .i64 n] W fun e w' => e = .returned (.int .i64 (f)) ∧ Below W.heap.size W w') := Lib.hid fun W hb => by have := r_find (h.below hb) hI n; rw [findR_some ha] at this; exact this
  have dr : decide (S.room < (us : Int) + bs.length) = false := decide_eq_false hr
  have HV := Lib.hid hv
  have HD := Lib.hid hd
  have HS := Lib.hid hsm
  have HO := Lib.hid ho
  have hml := hI.ml
  have hwl := hI.wl
  have d0 : decide ((f : Int) < 0) = false := decide_eq_false (by omega)
  have hfl : f < S.many := hI.inv.lt _ (.inl (atD_some ha))
  clear h hI e2 hv hd hsm hmy hr ha ho
  go_enter Try.func41, Try.ntmps41
  go_wp2_with (first | (go_at_call 54; refine (hM' _).mono ?_; rintro e w2 ⟨rfl, rfl⟩) | go_in)
  refine start_ (n := 10) (S := fun w' => w'.cell? ⟨br, 0, none⟩ = some (.int .i64 S.room)) (ds := []) #[false, false, false, false, false, false, false, false, false, false] (by kernel_rfl) rfl rfl (c0) (fun hHeld => ?_)
  refine pure_ (i := 0) (N := some 17) (v := ?_) (a' := ?_) #[true, false, false, false, false, false, false, false, false, false] rfl rfl (by kernel_rfl) (fun _ _ _ h => h) (Or.inl ⟨by rfl, ?_⟩) ?_ ?_
  rotate_left
  · intro w'
    go_simp
    with_reducible rfl
  rotate_left
  · simp only [Act.put, List.setIfInBounds_toArray, List.set_cons_zero, List.set_cons_succ, i64_w, i32_w]
    rfl
  refine pure_ (i := 2) (N := some 19) (v := ?_) (a' := ?_) #[true, false, true, false, false, false, false, false, false, false] rfl rfl (by kernel_rfl) (fun _ _ _ h => h) (Or.inl ⟨by rfl, ?_⟩) ?_ ?_
  rotate_left
  · intro w'
    go_simp
    with_reducible rfl
  rotate_left
  · simp only [Act.put, List.setIfInBounds_toArray, List.set_cons_zero, List.set_cons_succ, i64_w, i32_w]
    rfl
  refine pure_ (i := 3) (N := some 20) (v := ?_) (a' := ?_) #[true, false, true, true, false, false, false, false, false, false] rfl rfl (by kernel_rfl) (fun _ _ _ h => h) (Or.inl ⟨by rfl, ?_⟩) ?_ ?_
  rotate_left
  · intro w'
    go_simp
    with_reducible rfl
  rotate_left
  · simp only [Act.put, List.setIfInBounds_toArray, List.set_cons_zero, List.set_cons_succ, i64_w, i32_w]
    rfl
  refine pure_ (i := 5) (N := some 22) (v := ?_) (a' := ?_) #[true, false, true, true, false, true, false, false, false, false] rfl rfl (by kernel_rfl) (fun _ _ _ h => h) (Or.inl ⟨by rfl, ?_⟩) ?_ ?_
  rotate_left
  · intro w'
    go_simp
    with_reducible rfl
  rotate_left
  · simp only [Act.put, List.setIfInBounds_toArray, List.set_cons_zero, List.set_cons_succ, i64_w, i32_w]
    rfl
  refine pure_ (i := 6) (N := some 23) (v := ?_) (a' := ?_) #[true, false, true, true, false, true, true, false, false, false] rfl rfl (by kernel_rfl) (fun _ _ _ h => h) (Or.inl ⟨by rfl, ?_⟩) ?_ ?_
  rotate_left
  · intro w'
    go_simp
    with_reducible rfl
  rotate_left
  · simp only [Act.put, List.setIfInBounds_toArray, List.set_cons_zero, List.set_cons_succ, i64_w, i32_w]
    rfl
  refine pure_ (i := 7) (N := some 24) (v := ?_) (a' := ?_) #[true, false, true, true, false, true, true, true, false, false] rfl rfl (by kernel_rfl) (fun _ _ _ h => h) (Or.inl ⟨by rfl, ?_⟩) ?_ ?_
  rotate_left
  · intro w'
    go_simp
    with_reducible rfl
  rotate_left
  · simp only [Act.put, List.setIfInBounds_toArray, List.set_cons_zero, List.set_cons_succ, i64_w, i32_w]
    rfl
  refine take_ (i := 8) (N := some 25) (v := ?_) (a' := ?_) #[true, false, true, true, false, true, true, true, true, false] rfl rfl (by kernel_rfl) (fun _ _ _ h => h) (Or.inl ⟨by rfl, ?_⟩) hHeld ?_ ?_
  rotate_left
  · intro w' s0
    go_simp
    with_reducible rfl
  rotate_left
  · simp only [Act.put, List.setIfInBounds_toArray, List.set_cons_zero, List.set_cons_succ, i64_w, i32_w]
    rfl
  refine one_ (i := 1) (N := some 18) #[true, true, true, true, false, true, true, true, true, false] rfl rfl (by kernel_rfl) (by decide) (fun K hK => ?_)
  refine goes_ Try.func26 (by kernel_rfl) rfl #[.pointer (some ⟨br, 0, none⟩)] (by rfl) rfl rfl (by simp only [List.map_toArray, List.map_cons, List.map_nil]; rfl) ?_
  with_reducible refine (HU.out).mono ?_
  rintro e w3 ⟨rfl, hb3⟩
  refine ⟨_, rfl, ?_⟩
  try clear hHeld
  refine hK.out _ _ (((Keeps.ofBelow (F := fun _ => False) hb3).cellSome (fun h => h) c0)) (fun hHeld => ?_)
  clear hK K
  refine norm_ (a' := ?_) ?_ ?_
  rotate_left
  · show Act.put _ (some 18) _ = _
    simp only [Act.put, List.setIfInBounds_toArray, List.set_cons_zero, List.set_cons_succ, i64_w, i32_w]
    rfl
  refine pure_ (i := 4) (N := some 21) (v := ?_) (a' := ?_) #[true, true, true, true, true, true, true, true, true, false] rfl rfl (by kernel_rfl) (fun _ _ _ h => h) (Or.inl ⟨by rfl, ?_⟩) ?_ ?_
  rotate_left
  · intro w'
    go_simp
    with_reducible rfl
  rotate_left
  · simp only [Act.put, List.setIfInBounds_toArray, List.set_cons_zero, List.set_cons_succ, i64_w, i32_w]
    rfl
  refine pure_ (i := 9) (N := some 26) (v := ?_) (a' := ?_) #[true, true, true, true, true, true, true, true, true, true] rfl rfl (by kernel_rfl) (fun _ _ _ h => h) (Or.inl ⟨by rfl, ?_⟩) ?_ ?_
  rotate_left
  · intro w'
    go_simp
    with_reducible rfl
  rotate_left
  · simp only [Act.put, List.setIfInBounds_toArray, List.set_cons_zero, List.set_cons_succ, i64_w, i32_w]
    rfl
  try clear hHeld
  refine done_ (by kernel_rfl) ?_
  have HB3 := Lib.hid (show Below w.heap.size w w3 from (Below.refl _ w).drew.trans hb3)
  clear hb3 HU
  go_wp2_with (first | (go_at_call 55; refine (HF.out _ HB3.out).mono ?_; rintro e w5 ⟨rfl, hb5⟩) | go_in)
  have hb := HB3.out.trans (hb5.mono HB3.out.size)
  have h5 := HH.out.below hb
  have k5 : Keeps fp w w5 := Keeps.ofBelow hb
  have hi5 : ∀ k, k < w.heap.size → (fp k ↔ fp k) := fun _ _ => Iff.rfl
  have hz5 := hb.size
  clear hb hb5 HB3 c0 c4 HF
  generalize w5 = W at *
  have hBf := h5.parts.files.blk f hfl
  have hOf := h5.parts.files.own f hfl
  have c1 : W.cell? ⟨br, 1, none⟩ = some R.vF := h5.blk.cell 1
  obtain ⟨gF, cF, eF, hcF1, hcF2⟩ := own_open h5.parts.fown (by omega)
  have hFo := h5.parts.fown
  have nF : ¬ (R.fv f).ownBlock = some gF := fun e => own_type_ne h5.parts.fown hOf (by decide) (by rw [eF]; rfl) e
  have nD : ¬ (R.fv f).ownBlock = some br := own_blk_ne hOf h5.blk (by decide)
  have nfb : ¬ (R.fv f).ownBlock = some (R.fb f) := own_blk_ne hOf hBf (by decide)
  rw [eF] at c1 hFo
  have p1 := (World.ownsRow.cellAt hFo f (by omega)).trans (ptrsF_get hfl)
  have q0 : W.cell? ⟨R.fb f, 0, none⟩ = some (R.fv f) := hBf.cell 0
  obtain ⟨fa, fc, efv⟩ := own_shape hOf
  have f0 : (0 : Int) ≤ (f : Int) := by omega
  have f1 : (f : Int) < (S.many : Int) := by omega
  have HT := Lib.hid (fun w2 v' => r_app_end (m := m) (w2 := w2) (v' := v') h5.drew (HS.out.mono (m' := m + 1) (by omega) (by omega)) HO.out HH.out.fpd hw0 (by show w.heap.size ≤ W.heap.size; omega) k5.drew hi5 hfl (bs := bs) (by have := HS.out.len f; rw [List.length_append]; omega))
  have HOF := Lib.hid hOf
  have HV5 : Hid (Rb W (.slice va bs.length vc) bs) := Lib.hid (rb_keeps HV.out k5 HD.out)
  have HBF := Lib.hid hBf
  rw [efv] at q0
  have hll := HS.out.len f
  have HTOP := Lib.hid ((HS.out.mono (m' := m + 1) (by omega) (by omega))).top
  clear h5 hBf hOf hFo eF
  go_wp2_with fail
  refine start_ (n := 22) (S := fun w' => w'.cell? ⟨br, 1, none⟩ = some (.slice (some ⟨gF, 0, none⟩) S.many cF) ∧ w'.cell? ⟨gF, f, none⟩ = some (.pointer (some ⟨R.fb f, 0, none⟩)) ∧ w'.cell? ⟨R.fb f, 0, none⟩ = some (.slice fa (S.files f).b.length fc)) (ds := [21]) #[false, false, false, false, false, false, false, false, false, false, false, false, false, false, false, false, false, false, false, false, false, false] (by kernel_rfl) rfl rfl ⟨c1, p1, q0⟩ (fun hHeld => ?_)
  refine pure_ (i := 0) (N := some 60) (v := ?_) (a' := ?_) #[true, false, false, false, false, false, false, false, false, false, false, false, false, false, false, false, false, false, false, false, false, false] rfl rfl (by kernel_rfl) (fun _ _ _ h => h) (Or.inl ⟨by rfl, ?_⟩) ?_ ?_
  rotate_left
  · intro w'
    go_simp
    with_reducible rfl
  rotate_left
  · simp only [Act.put, List.setIfInBounds_toArray, List.set_cons_zero, List.set_cons_succ, i64_w, i32_w]
    rfl
  refine pure_ (i := 1) (N := some 61) (v := ?_) (a' := ?_) #[true, true, false, false, false, false, false, false, false, false, false, false, false, false, false, false, false, false, false, false, false, false] rfl rfl (by kernel_rfl) (fun _ _ _ h => h) (Or.inl ⟨by rfl, ?_⟩) ?_ ?_
  rotate_left
  · intro w'
    go_simp
    with_reducible rfl
  rotate_left
  · simp only [Act.put, List.setIfInBounds_toArray, List.set_cons_zero, List.set_cons_succ, i64_w, i32_w]
    rfl
  refine pure_ (i := 2) (N := some 62) (v := ?_) (a' := ?_) #[true, true, true, false, false, false, false, false, false, false, false, false, false, false, false, false, false, false, false, false, false, false] rfl rfl (by kernel_rfl) (fun _ _ _ h => h) (Or.inl ⟨by rfl, ?_⟩) ?_ ?_
  rotate_left
  · intro w'
    go_simp
    with_reducible rfl
  rotate_left
  · simp only [Act.put, List.setIfInBounds_toArray, List.set_cons_zero, List.set_cons_succ, i64_w, i32_w]
    rfl
  refine pure_ (i := 4) (N := some 64) (v := ?_) (a' := ?_) #[true, true, true, false, true, false, false, false, false, false, false, false, false, false, false, false, false, false, false, false, false, false] rfl rfl (by kernel_rfl) (fun _ _ _ h => h) (Or.inl ⟨by rfl, ?_⟩) ?_ ?_
  rotate_left
  · intro w'
    go_simp
    with_reducible rfl
  rotate_left
  · simp only [Act.put, List.setIfInBounds_toArray, List.set_cons_zero, List.set_cons_succ, i64_w, i32_w]
    rfl
  refine pure_ (i := 7) (N := some 67) (v := ?_) (a' := ?_) #[true, true, true, false, true, false, false, true, false, false, false, false, false, false, false, false, false, false, false, false, false, false] rfl rfl (by kernel_rfl) (fun _ _ _ h => h) (Or.inl ⟨by rfl, ?_⟩) ?_ ?_
  rotate_left
  · intro w'
    go_simp
    with_reducible rfl
  rotate_left
  · simp only [Act.put, List.setIfInBounds_toArray, List.set_cons_zero, List.set_cons_succ, i64_w, i32_w]
    rfl
  refine pure_ (i := 8) (N := some 68) (v := ?_) (a' := ?_) #[true, true, true, false, true, false, false, true, true, false, false, false, false, false, false, false, false, false, false, false, false, false] rfl rfl (by kernel_rfl) (fun _ _ _ h => h) (Or.inl ⟨by rfl, ?_⟩) ?_ ?_
  rotate_left
  · intro w'
    go_simp
    with_reducible rfl
  rotate_left
  · simp only [Act.put, List.setIfInBounds_toArray, List.set_cons_zero, List.set_cons_succ, i64_w, i32_w]
    rfl
  refine pure_ (i := 9) (N := some 69) (v := ?_) (a' := ?_) #[true, true, true, false, true, false, false, true, true, true, false, false, false, false, false, false, false, false, false, false, false, false] rfl rfl (by kernel_rfl) (fun _ _ _ h => h) (Or.inl ⟨by rfl, ?_⟩) ?_ ?_
  rotate_left
  · intro w'
    go_simp
    with_reducible rfl
  rotate_left
  · simp only [Act.put, List.setIfInBounds_toArray, List.set_cons_zero, List.set_cons_succ, i64_w, i32_w]
    rfl
  refine pure_ (i := 11) (N := some 71) (v := ?_) (a' := ?_) #[true, true, true, false, true, false, false, true, true, true, false, true, false, false, false, false, false, false, false, false, false, false] rfl rfl (by kernel_rfl) (fun _ _ _ h => h) (Or.inl ⟨by rfl, ?_⟩) ?_ ?_
  rotate_left
  · intro w'
    go_simp
    with_reducible rfl
  rotate_left
  · simp only [Act.put, List.setIfInBounds_toArray, List.set_cons_zero, List.set_cons_succ, i64_w, i32_w]
    rfl
  refine pure_ (i := 17) (N := some 77) (v := ?_) (a' := ?_) #[true, true, true, false, true, false, false, true, true, true, false, true, false, false, false, false, false, true, false, false, false, false] rfl rfl (by kernel_rfl) (fun _ _ _ h => h) (Or.inl ⟨by rfl, ?_⟩) ?_ ?_
  rotate_left
  · intro w'
    go_simp
    with_reducible rfl
  rotate_left
  · simp only [Act.put, List.setIfInBounds_toArray, List.set_cons_zero, List.set_cons_succ, i64_w, i32_w]
    rfl
  refine take_ (i := 3) (N := some 63) (v := ?_) (a' := ?_) #[true, true, true, true, true, false, false, true, true, true, false, true, false, false, false, false, false, true, false, false, false, false] rfl rfl (by kernel_rfl) (fun _ _ _ h => h) (Or.inl ⟨by rfl, ?_⟩) hHeld ?_ ?_
  rotate_left
  · rintro w' ⟨s0, s1, s2⟩
    go_simp
    with_reducible rfl
  rotate_left
  · simp only [Act.put, List.setIfInBounds_toArray, List.set_cons_zero, List.set_cons_succ, i64_w, i32_w]
    rfl
  refine pure_ (i := 5) (N := some 65) (v := ?_) (a' := ?_) #[true, true, true, true, true, true, false, true, true, true, false, true, false, false, false, false, false, true, false, false, false, false] rfl rfl (by kernel_rfl) (fun _ _ _ h => h) (Or.inl ⟨by rfl, ?_⟩) ?_ ?_
  rotate_left
  · intro w'
    go_simp
    with_reducible rfl
  rotate_left
  · simp only [Act.put, List.setIfInBounds_toArray, List.set_cons_zero, List.set_cons_succ, i64_w, i32_w]
    rfl
  refine take_ (i := 6) (N := some 66) (v := ?_) (a' := ?_) #[true, true, true, true, true, true, true, true, true, true, false, true, false, false, false, false, false, true, false, false, false, false] rfl rfl (by kernel_rfl) (fun _ _ _ h => h) (Or.inl ⟨by rfl, ?_⟩) hHeld ?_ ?_
  rotate_left
  · rintro w' ⟨s0, s1, s2⟩
    go_simp
    with_reducible rfl
  rotate_left
  · simp only [Act.put, List.setIfInBounds_toArray, List.set_cons_zero, List.set_cons_succ, i64_w, i32_w]
    rfl
  refine take_ (i := 10) (N := some 70) (v := ?_) (a' := ?_) #[true, true, true, true, true, true, true, true, true, true, true, true, false, false, false, false, false, true, false, false, false, false] rfl rfl (by kernel_rfl) (fun _ _ _ h => h) (Or.inl ⟨by rfl, ?_⟩) hHeld ?_ ?_
  rotate_left
  · rintro w' ⟨s0, s1, s2⟩
    go_simp
    with_reducible rfl
  rotate_left
  · simp only [Act.put, List.setIfInBounds_toArray, List.set_cons_zero, List.set_cons_succ, i64_w, i32_w]
    rfl
  refine pure_ (i := 12) (N := some 72) (v := ?_) (a' := ?_) #[true, true, true, true, true, true, true, true, true, true, true, true, true, false, false, false, false, true, false, false, false, false] rfl rfl (by kernel_rfl) (fun _ _ _ h => h) (Or.inl ⟨by rfl, ?_⟩) ?_ ?_
  rotate_left
  · intro w'
    go_simp
    with_reducible rfl
  rotate_left
  · simp only [Act.put, List.setIfInBounds_toArray, List.set_cons_zero, List.set_cons_succ, i64_w, i32_w]
    rfl
  refine take_ (i := 13) (N := some 73) (v := ?_) (a' := ?_) #[true, true, true, true, true, true, true, true, true, true, true, true, true, true, false, false, false, true, false, false, false, false] rfl rfl (by kernel_rfl) (fun _ _ _ h => h) (Or.inl ⟨by rfl, ?_⟩) hHeld ?_ ?_
  rotate_left
  · rintro w' ⟨s0, s1, s2⟩
    go_simp
    with_reducible rfl
  rotate_left
  · simp only [Act.put, List.setIfInBounds_toArray, List.set_cons_zero, List.set_cons_succ, i64_w, i32_w]
    rfl
  refine pure_ (i := 14) (N := some 74) (v := ?_) (a' := ?_) #[true, true, true, true, true, true, true, true, true, true, true, true, true, true, true, false, false, true, false, false, false, false] rfl rfl (by kernel_rfl) (fun _ _ _ h => h) (Or.inl ⟨by rfl, ?_⟩) ?_ ?_
  rotate_left
  · intro w'
    go_simp
    with_reducible rfl
  rotate_left
  · simp only [Act.put, List.setIfInBounds_toArray, List.set_cons_zero, List.set_cons_succ, i64_w, i32_w]
    rfl
  refine pure_ (i := 15) (N := some 75) (v := ?_) (a' := ?_) #[true, true, true, true, true, true, true, true, true, true, true, true, true, true, true, true, false, true, false, false, false, false] rfl rfl (by kernel_rfl) (fun _ _ _ h => h) (Or.inl ⟨by rfl, ?_⟩) ?_ ?_
  rotate_left
  · intro w'
    go_simp
    with_reducible rfl
  rotate_left
  · simp only [Act.put, List.setIfInBounds_toArray, List.set_cons_zero, List.set_cons_succ, i64_w, i32_w]
    rfl
  refine take_ (i := 16) (N := some 76) (v := ?_) (a' := ?_) #[true, true, true, true, true, true, true, true, true, true, true, true, true, true, true, true, true, true, false, false, false, false] rfl rfl (by kernel_rfl) (fun _ _ _ h => h) (Or.inl ⟨by rfl, ?_⟩) hHeld ?_ ?_
  rotate_left
  · rintro w' ⟨s0, s1, s2⟩
    go_simp
    with_reducible rfl
  rotate_left
  · simp only [Act.put, List.setIfInBounds_toArray, List.set_cons_zero, List.set_cons_succ, i64_w, i32_w]
    rfl
  refine one_ (i := 18) (N := some 78) #[true, true, true, true, true, true, true, true, true, true, true, true, true, true, true, true, true, true, true, false, false, false] rfl rfl (by kernel_rfl) (by decide) (fun K hK => ?_)
  refine append_b_ rfl rfl _ _ rfl (.slice fa (S.files f).b.length fc) _ rfl (by rw [← efv]; exact own_drew HOF.out) (.slice va bs.length vc) bs rfl HV5.out.drew (by have := HTOP.out; omega) ?_
  intro v6 w6 hO6 hg6 hat6
  rw [← efv] at hg6 hat6
  have HT6 := Lib.hid (HT.out w6 v6 hO6 hg6 hat6)
  have kg : Keeps (fun q => (R.fv f).ownBlock = some q) W.drew w6 := (Keeps.refl _ W.drew).grown hg6 (fun k e => .inl e)
  have k6 : w6.cell? ⟨R.fb f, 0, none⟩ = some (R.fv f) := (HBF.out.drew.keeps kg nfb).cell 0
  rw [efv] at k6
  have z6 : w6.frozen? ⟨R.fb f, 0, none⟩ = false := (HBF.out.drew.keeps kg nfb).frozen 0
  obtain ⟨a6, c6, e6⟩ := own_shape hO6
  rw [List.length_append] at e6
  subst e6
  try clear hHeld
  refine hK.out _ _ ⟨(kg.cellSome nD c1), (kg.cellSome nF p1), (kg.cellSome nfb q0)⟩ (fun hHeld => ?_)
  clear hK K
  refine norm_ (a' := ?_) ?_ ?_
  rotate_left
  · show Act.put _ (some 78) _ = _
    simp only [Act.put, List.setIfInBounds_toArray, List.set_cons_zero, List.set_cons_succ, i64_w, i32_w]
    rfl
  refine pure_ (i := 19) (N := some 79) (v := ?_) (a' := ?_) #[true, true, true, true, true, true, true, true, true, true, true, true, true, true, true, true, true, true, true, true, false, false] rfl rfl (by kernel_rfl) (fun _ _ _ h => h) (Or.inl ⟨by rfl, ?_⟩) ?_ ?_
  rotate_left
  · intro w'
    go_simp
    with_reducible rfl
  rotate_left
  · simp only [Act.put, List.setIfInBounds_toArray, List.set_cons_zero, List.set_cons_succ, i64_w, i32_w]
    rfl
  refine pure_ (i := 20) (N := some 80) (v := ?_) (a' := ?_) #[true, true, true, true, true, true, true, true, true, true, true, true, true, true, true, true, true, true, true, true, true, false] rfl rfl (by kernel_rfl) (fun _ _ _ h => h) (Or.inl ⟨by rfl, ?_⟩) ?_ ?_
  rotate_left
  · intro w'
    go_simp
    with_reducible rfl
  rotate_left
  · simp only [Act.put, List.setIfInBounds_toArray, List.set_cons_zero, List.set_cons_succ, i64_w, i32_w]
    rfl
  refine last_ (i := 21) (N := none) #[true, true, true, true, true, true, true, true, true, true, true, true, true, true, true, true, true, true, true, true, true, true] rfl rfl (by kernel_rfl) (by decide) (fun K hK => ?_)
  refine skip_ (w1 := ?_) (by rfl) rfl ?_ ?_
  rotate_left
  · go_simp
    rfl
  try clear hHeld
  refine hK.out _ _ ?_
  clear hK K
  try clear hHeld
  refine done_ (by kernel_rfl) ?_
  go_wp2_with (first | (go_at_call 56; refine HT6.out.mono ?_; rintro e w7 ⟨rfl, hP⟩) | go_in)
  go_ret
  exact hP _
set_option maxHeartbeats 3200000 in
theorem r_append_none (h : RRep w base fp br R S) (hI : DocI S) (hsm : Small S m) (hm : m < 1000) (hU : S.used ≤ 300000000) (hw0 : base ≤ w.heap.size) {n : Int} {v : Value} {bs : List Int} (hv : Rb w v bs) (hbl : bs.length ≤ 300) (hd : 0 < bs.length → ∀ k, v.ownBlock = some k → ¬ fp k) (ho : S.out = false) (hmy : mayN n) (hr : ¬ S.room < S.used + bs.length) (ha : atD S.now n = none) :
    Calls Try.prog 41 #[.pointer (some ⟨br, 0, none⟩), .int .i64 n, v] w (RPost w base fp br (S.append n bs).1 (.int .i64 (S.append n bs).2)) := by
  have c4 : w.cell? ⟨br, 4, none⟩ = some (.bool S.out) := h.blk.cell 4
  have c0 : w.cell? ⟨br, 0, none⟩ = some (.int .i64 S.room) := h.blk.cell 0
  obtain ⟨va, vc, rfl⟩ : ∃ a c, v = .slice a bs.length c := by obtain ⟨a, c, e, _⟩ := id hv; exact ⟨a, c, e⟩
  have HH := Lib.hid h
  rw [ho] at c4
  obtain ⟨S1, hS1⟩ : ∃ S1, S1 = S.more.change (.put n S.many) := ⟨_, rfl⟩
  have hfs : atD S1.now n = some S.many := by rw [hS1]; exact (hI.inv.now.put n S.many).at_ (mem_putD.2 (.inl rfl))
  have e2 : S.append n bs = ((S1.setF S.many ⟨(S1.files S.many).b ++ bs, (S1.files S.many).kept⟩).did, 0) := by
    unfold FS.append
    rw [if_neg (by rw [ho]; simp), if_neg (fun h => h hmy), if_neg hr]
    have e3 : S.mkF n = S1 := by unfold FS.mkF; rw [if_pos ha, hS1]; rfl
    rw [e3]
    unfold FS.add FS.fid
    rw [hfs]
    rfl
  have e4 : (S1.files S.many).b.length ≤ 300 * m := by rw [hS1]; show (updF S.files S.many ⟨[], 0⟩ S.many).b.length ≤ _; rw [updF_same]; exact Nat.zero_le _
  have hsm1 : Small S1 (m + 1) := hS1 ▸ hsm.moreC (by omega) n
  have ho1 : S1.out = false := by rw [hS1]; exact ho
  have hfl : S.many < S1.many := by rw [hS1]; exact Nat.lt_succ_self _
  have hml1 : S1.many ≤ 1001 := by rw [hS1]; have := hI.ml; show S.many + 1 ≤ 1001; omega
  rw [e2]
  have hM' : ∀ W, Calls Try.prog 54 #[.int .i64 n] W fun e w' => e = .returned (.bool true) ∧ W = w' := fun W => by have := r_may W n; rw [decide_eq_true hmy] at this; exact this.mono (fun e w' h => ⟨h.1, h.2.symm⟩)
  have HU := Lib.hid (r_used h.drew hI hU)
  generalize S.used = us at *
  have wz : IntKind.i64.wrap ((us : Int) + (bs.length : Int)) = (us : Int) + bs.length := IntWalk.i64_in _ (by omega)
  have HF : Hid (∀ W, Below w.heap.size w W → Calls Try.prog 55 #[.pointer (some ⟨br, 0, none⟩), .int .i64 n] W fun e w' => e = .returned (.int .i64 (-1)) ∧ Below W.heap.size W w') := Lib.hid fun W hb => by have := r_find (h.below hb) hI n; rw [findR_none ha] at this; exact this
  have dr : decide (S.room < (us : Int) + bs.length) = false := decide_eq_false hr
  have HV := Lib.hid hv
  have HD := Lib.hid hd
  have HS := Lib.hid hsm
  have HO := Lib.hid ho
  have hml := hI.ml
  have hwl := hI.wl
  have HS1 := Lib.hid hsm1
  have HO1 := Lib.hid ho1
  have HES := Lib.hid hS1
  obtain ⟨aF, cF0, evF⟩ := own_shape h.parts.fown
  obtain ⟨aw, cw, ew⟩ := own_shape h.parts.waits
  clear h hI e2 hv hd hsm hmy hr ha ho hfs hS1 hsm1 ho1
  go_enter Try.func41, Try.ntmps41
  go_wp2_with (first | (go_at_call 54; refine (hM' _).mono ?_; rintro e w2 ⟨rfl, rfl⟩) | go_in)
  refine start_ (n := 10) (S := fun w' => w'.cell? ⟨br, 0, none⟩ = some (.int .i64 S.room)) (ds := []) #[false, false, false, false, false, false, false, false, false, false] (by kernel_rfl) rfl rfl (c0) (fun hHeld => ?_)
  refine pure_ (i := 0) (N := some 17) (v := ?_) (a' := ?_) #[true, false, false, false, false, false, false, false, false, false] rfl rfl (by kernel_rfl) (fun _ _ _ h => h) (Or.inl ⟨by rfl, ?_⟩) ?_ ?_
  rotate_left
  · intro w'
    go_simp
    with_reducible rfl
  rotate_left
  · simp only [Act.put, List.setIfInBounds_toArray, List.set_cons_zero, List.set_cons_succ, i64_w, i32_w]
    rfl
  refine pure_ (i := 2) (N := some 19) (v := ?_) (a' := ?_) #[true, false, true, false, false, false, false, false, false, false] rfl rfl (by kernel_rfl) (fun _ _ _ h => h) (Or.inl ⟨by rfl, ?_⟩) ?_ ?_
  rotate_left
  · intro w'
    go_simp
    with_reducible rfl
  rotate_left
  · simp only [Act.put, List.setIfInBounds_toArray, List.set_cons_zero, List.set_cons_succ, i64_w, i32_w]
    rfl
  refine pure_ (i := 3) (N := some 20) (v := ?_) (a' := ?_) #[true, false, true, true, false, false, false, false, false, false] rfl rfl (by kernel_rfl) (fun _ _ _ h => h) (Or.inl ⟨by rfl, ?_⟩) ?_ ?_
  rotate_left
  · intro w'
    go_simp
    with_reducible rfl
  rotate_left
  · simp only [Act.put, List.setIfInBounds_toArray, List.set_cons_zero, List.set_cons_succ, i64_w, i32_w]
    rfl
  refine pure_ (i := 5) (N := some 22) (v := ?_) (a' := ?_) #[true, false, true, true, false, true, false, false, false, false] rfl rfl (by kernel_rfl) (fun _ _ _ h => h) (Or.inl ⟨by rfl, ?_⟩) ?_ ?_
  rotate_left
  · intro w'
    go_simp
    with_reducible rfl
  rotate_left
  · simp only [Act.put, List.setIfInBounds_toArray, List.set_cons_zero, List.set_cons_succ, i64_w, i32_w]
    rfl
  refine pure_ (i := 6) (N := some 23) (v := ?_) (a' := ?_) #[true, false, true, true, false, true, true, false, false, false] rfl rfl (by kernel_rfl) (fun _ _ _ h => h) (Or.inl ⟨by rfl, ?_⟩) ?_ ?_
  rotate_left
  · intro w'
    go_simp
    with_reducible rfl
  rotate_left
  · simp only [Act.put, List.setIfInBounds_toArray, List.set_cons_zero, List.set_cons_succ, i64_w, i32_w]
    rfl
  refine pure_ (i := 7) (N := some 24) (v := ?_) (a' := ?_) #[true, false, true, true, false, true, true, true, false, false] rfl rfl (by kernel_rfl) (fun _ _ _ h => h) (Or.inl ⟨by rfl, ?_⟩) ?_ ?_
  rotate_left
  · intro w'
    go_simp
    with_reducible rfl
  rotate_left
  · simp only [Act.put, List.setIfInBounds_toArray, List.set_cons_zero, List.set_cons_succ, i64_w, i32_w]
    rfl
  refine take_ (i := 8) (N := some 25) (v := ?_) (a' := ?_) #[true, false, true, true, false, true, true, true, true, false] rfl rfl (by kernel_rfl) (fun _ _ _ h => h) (Or.inl ⟨by rfl, ?_⟩) hHeld ?_ ?_
  rotate_left
  · intro w' s0
    go_simp
    with_reducible rfl
  rotate_left
  · simp only [Act.put, List.setIfInBounds_toArray, List.set_cons_zero, List.set_cons_succ, i64_w, i32_w]
    rfl
  refine one_ (i := 1) (N := some 18) #[true, true, true, true, false, true, true, true, true, false] rfl rfl (by kernel_rfl) (by decide) (fun K hK => ?_)
  refine goes_ Try.func26 (by kernel_rfl) rfl #[.pointer (some ⟨br, 0, none⟩)] (by rfl) rfl rfl (by simp only [List.map_toArray, List.map_cons, List.map_nil]; rfl) ?_
  with_reducible refine (HU.out).mono ?_
  rintro e w3 ⟨rfl, hb3⟩
  refine ⟨_, rfl, ?_⟩
  try clear hHeld
  refine hK.out _ _ (((Keeps.ofBelow (F := fun _ => False) hb3).cellSome (fun h => h) c0)) (fun hHeld => ?_)
  clear hK K
  refine norm_ (a' := ?_) ?_ ?_
  rotate_left
  · show Act.put _ (some 18) _ = _
    simp only [Act.put, List.setIfInBounds_toArray, List.set_cons_zero, List.set_cons_succ, i64_w, i32_w]
    rfl
  refine pure_ (i := 4) (N := some 21) (v := ?_) (a' := ?_) #[true, true, true, true, true, true, true, true, true, false] rfl rfl (by kernel_rfl) (fun _ _ _ h => h) (Or.inl ⟨by rfl, ?_⟩) ?_ ?_
  rotate_left
  · intro w'
    go_simp
    with_reducible rfl
  rotate_left
  · simp only [Act.put, List.setIfInBounds_toArray, List.set_cons_zero, List.set_cons_succ, i64_w, i32_w]
    rfl
  refine pure_ (i := 9) (N := some 26) (v := ?_) (a' := ?_) #[true, true, true, true, true, true, true, true, true, true] rfl rfl (by kernel_rfl) (fun _ _ _ h => h) (Or.inl ⟨by rfl, ?_⟩) ?_ ?_
  rotate_left
  · intro w'
    go_simp
    with_reducible rfl
  rotate_left
  · simp only [Act.put, List.setIfInBounds_toArray, List.set_cons_zero, List.set_cons_succ, i64_w, i32_w]
    rfl
  try clear hHeld
  refine done_ (by kernel_rfl) ?_
  have HB3 := Lib.hid (show Below w.heap.size w w3 from (Below.refl _ w).drew.trans hb3)
  clear hb3 HU
  go_wp2_with (first
    | (go_at_call 55; refine (HF.out _ HB3.out).mono ?_; rintro e w5 ⟨rfl, hb5⟩; have hb := HB3.out.trans (hb5.mono HB3.out.size); have h5 := HH.out.below hb; have c1 : w5.cell? ⟨br, 1, none⟩ = some R.vF := h5.blk.cell 1; rw [evF] at c1; have HB := Lib.hid hb; have H5 := Lib.hid h5; have HF5 := Lib.hid h5.parts.fown; rw [evF] at HF5; have hz5 := hb.size; clear hb hb5 h5)
    | (at_builtin; refine wpList_fapp rfl _ _ rfl (.slice aF S.many cF0) S.many _ rfl ((HF5.out.alloc _).alloc _) (.pointer (some ⟨w5.heap.size, 0, none⟩)) (w5.heap.size + 1) 1 rfl rfl (by have := cell_one_new (w5.alloc (.cells #[.slice none 0 0, .int .i64 0] 81)) (.pointer (some ⟨w5.heap.size, 0, none⟩)) 82; rw [show (w5.alloc (.cells #[.slice none 0 0, .int .i64 0] 81)).heap.size = w5.heap.size + 1 by simp] at this; exact this) (by omega) ?_; intro v6 w6 hO6 hg6 hat6; rw [← evF] at hg6 hat6; obtain ⟨g1, g1f, fp7, R7, h7, hi7, k7, ew7⟩ := r_file_mid H5.out (by omega) hO6 hg6 hat6; rw [evF] at g1; obtain ⟨a6, c6, e6⟩ := own_shape hO6; subst e6; have g3 : (w6.setCell ⟨br, 1, none⟩ (.slice a6 (S.many + 1) c6)).cell? ⟨br, 3, none⟩ = some R7.vW := h7.blk.cell 3; rw [ew7, ew] at g3; have HW7 := Lib.hid h7.parts.waits; rw [ew7, ew] at HW7; have hX := Blk.new (w6.setCell ⟨br, 1, none⟩ (.slice a6 (S.many + 1) c6)) #[.int .i64 n, .int .i64 S.many, .int .i64 (-1)] 87; rw [show (w6.setCell ⟨br, 1, none⟩ (.slice a6 (S.many + 1) c6)).heap.size = w6.heap.size by simp] at hX; have H7 := Lib.hid h7; have HI7 := Lib.hid hi7; have HK7 := Lib.hid k7; have HEW := Lib.hid ew7; clear h7 hi7 k7 hO6 hg6 hat6 ew7)
    | (at_builtin; refine wpList_capp rfl _ _ rfl (.slice aw S.waits.length cw) S.waits rfl (HW7.out.alloc _) (.put n S.many) _ 1 rfl hX rfl (by omega) ?_; intro v8 w8 hO8 hg8 hat8; rw [← ew, ← HEW.out] at hg8 hat8; obtain ⟨k3, k3f, fp9, R9, h9, hi9, k9⟩ := r_wait_mid H7.out (by have := HK7.out.size; omega) hO8 hg8 hat8; rw [HEW.out, ew] at k3; obtain ⟨a8, c8, e8⟩ := own_shape hO8; subst e8; clear hO8 hg8 hat8 hX)
    | go_in)
  obtain ⟨h5, hi5, k5, hz5w⟩ : RRep (w8.setCell ⟨br, 3, none⟩ (.slice a8 (S.waits.length + 1) c8)) base fp9 br R9 S1 ∧ (∀ k, k < w.heap.size → (fp9 k ↔ fp k)) ∧ Keeps fp w (w8.setCell ⟨br, 3, none⟩ (.slice a8 (S.waits.length + 1) c8)) ∧ w.heap.size ≤ (w8.setCell ⟨br, 3, none⟩ (.slice a8 (S.waits.length + 1) c8)).heap.size := by
    have hk7 := HK7.out.size
    have hk9 := k9.size
    refine ⟨by rw [HES.out]; exact h9, fun k hk => (hi9 k (by omega)).trans (HI7.out k (by omega)), ((Keeps.ofBelow HB.out).trans' HK7.out).trans k9 (fun q hq => ?_), by omega⟩
    by_cases hlt : q < w5.heap.size
    · exact .inl ((HI7.out q hlt).1 hq)
    · exact .inr (by omega)
  clear h9 hi9 k9 H7 HI7 HK7 HW7 HF5 H5 HES HEW HB HB3 g1 g3 g1f k3 k3f c0 c1 c4 HF hz5
  have hz5 := hz5w
  generalize (w8.setCell ⟨br, 3, none⟩ (.slice a8 (S.waits.length + 1) c8)) = W at *
  have hBf := h5.parts.files.blk S.many hfl
  have hOf := h5.parts.files.own S.many hfl
  have c1 : W.cell? ⟨br, 1, none⟩ = some R9.vF := h5.blk.cell 1
  obtain ⟨gF, cF, eF, hcF1, hcF2⟩ := own_open h5.parts.fown (by omega)
  have hFo := h5.parts.fown
  have nF : ¬ (R9.fv S.many).ownBlock = some gF := fun e => own_type_ne h5.parts.fown hOf (by decide) (by rw [eF]; rfl) e
  have nD : ¬ (R9.fv S.many).ownBlock = some br := own_blk_ne hOf h5.blk (by decide)
  have nfb : ¬ (R9.fv S.many).ownBlock = some (R9.fb S.many) := own_blk_ne hOf hBf (by decide)
  rw [eF] at c1 hFo
  have p1 := (World.ownsRow.cellAt hFo S.many (by omega)).trans (ptrsF_get hfl)
  have q0 : W.cell? ⟨R9.fb S.many, 0, none⟩ = some (R9.fv S.many) := hBf.cell 0
  obtain ⟨fa, fc, efv⟩ := own_shape hOf
  have f0 : (0 : Int) ≤ (S.many : Int) := by omega
  have f1 : (S.many : Int) < (S1.many : Int) := by omega
  have HT := Lib.hid (fun w2 v' => r_app_end (m := m) (w2 := w2) (v' := v') h5.drew HS1.out HO1.out HH.out.fpd hw0 (by show w.heap.size ≤ W.heap.size; omega) k5.drew hi5 hfl (bs := bs) (by have := e4; rw [List.length_append]; omega))
  have HOF := Lib.hid hOf
  have HV5 : Hid (Rb W (.slice va bs.length vc) bs) := Lib.hid (rb_keeps HV.out k5 HD.out)
  have HBF := Lib.hid hBf
  rw [efv] at q0
  have hll := e4
  have HTOP := Lib.hid (HS1.out).top
  clear h5 hBf hOf hFo eF
  go_wp2_with fail
  refine start_ (n := 22) (S := fun w' => w'.cell? ⟨br, 1, none⟩ = some (.slice (some ⟨gF, 0, none⟩) S1.many cF) ∧ w'.cell? ⟨gF, S.many, none⟩ = some (.pointer (some ⟨R9.fb S.many, 0, none⟩)) ∧ w'.cell? ⟨R9.fb S.many, 0, none⟩ = some (.slice fa (S1.files S.many).b.length fc)) (ds := [21]) #[false, false, false, false, false, false, false, false, false, false, false, false, false, false, false, false, false, false, false, false, false, false] (by kernel_rfl) rfl rfl ⟨c1, p1, q0⟩ (fun hHeld => ?_)
  refine pure_ (i := 0) (N := some 60) (v := ?_) (a' := ?_) #[true, false, false, false, false, false, false, false, false, false, false, false, false, false, false, false, false, false, false, false, false, false] rfl rfl (by kernel_rfl) (fun _ _ _ h => h) (Or.inl ⟨by rfl, ?_⟩) ?_ ?_
  rotate_left
  · intro w'
    go_simp
    with_reducible rfl
  rotate_left
  · simp only [Act.put, List.setIfInBounds_toArray, List.set_cons_zero, List.set_cons_succ, i64_w, i32_w]
    rfl
  refine pure_ (i := 1) (N := some 61) (v := ?_) (a' := ?_) #[true, true, false, false, false, false, false, false, false, false, false, false, false, false, false, false, false, false, false, false, false, false] rfl rfl (by kernel_rfl) (fun _ _ _ h => h) (Or.inl ⟨by rfl, ?_⟩) ?_ ?_
  rotate_left
  · intro w'
    go_simp
    with_reducible rfl
  rotate_left
  · simp only [Act.put, List.setIfInBounds_toArray, List.set_cons_zero, List.set_cons_succ, i64_w, i32_w]
    rfl
  refine pure_ (i := 2) (N := some 62) (v := ?_) (a' := ?_) #[true, true, true, false, false, false, false, false, false, false, false, false, false, false, false, false, false, false, false, false, false, false] rfl rfl (by kernel_rfl) (fun _ _ _ h => h) (Or.inl ⟨by rfl, ?_⟩) ?_ ?_
  rotate_left
  · intro w'
    go_simp
    with_reducible rfl
  rotate_left
  · simp only [Act.put, List.setIfInBounds_toArray, List.set_cons_zero, List.set_cons_succ, i64_w, i32_w]
    rfl
  refine pure_ (i := 4) (N := some 64) (v := ?_) (a' := ?_) #[true, true, true, false, true, false, false, false, false, false, false, false, false, false, false, false, false, false, false, false, false, false] rfl rfl (by kernel_rfl) (fun _ _ _ h => h) (Or.inl ⟨by rfl, ?_⟩) ?_ ?_
  rotate_left
  · intro w'
    go_simp
    with_reducible rfl
  rotate_left
  · simp only [Act.put, List.setIfInBounds_toArray, List.set_cons_zero, List.set_cons_succ, i64_w, i32_w]
    rfl
  refine pure_ (i := 7) (N := some 67) (v := ?_) (a' := ?_) #[true, true, true, false, true, false, false, true, false, false, false, false, false, false, false, false, false, false, false, false, false, false] rfl rfl (by kernel_rfl) (fun _ _ _ h => h) (Or.inl ⟨by rfl, ?_⟩) ?_ ?_
  rotate_left
  · intro w'
    go_simp
    with_reducible rfl
  rotate_left
  · simp only [Act.put, List.setIfInBounds_toArray, List.set_cons_zero, List.set_cons_succ, i64_w, i32_w]
    rfl
  refine pure_ (i := 8) (N := some 68) (v := ?_) (a' := ?_) #[true, true, true, false, true, false, false, true, true, false, false, false, false, false, false, false, false, false, false, false, false, false] rfl rfl (by kernel_rfl) (fun _ _ _ h => h) (Or.inl ⟨by rfl, ?_⟩) ?_ ?_
  rotate_left
  · intro w'
    go_simp
    with_reducible rfl
  rotate_left
  · simp only [Act.put, List.setIfInBounds_toArray, List.set_cons_zero, List.set_cons_succ, i64_w, i32_w]
    rfl
  refine pure_ (i := 9) (N := some 69) (v := ?_) (a' := ?_) #[true, true, true, false, true, false, false, true, true, true, false, false, false, false, false, false, false, false, false, false, false, false] rfl rfl (by kernel_rfl) (fun _ _ _ h => h) (Or.inl ⟨by rfl, ?_⟩) ?_ ?_
  rotate_left
  · intro w'
    go_simp
    with_reducible rfl
  rotate_left
  · simp only [Act.put, List.setIfInBounds_toArray, List.set_cons_zero, List.set_cons_succ, i64_w, i32_w]
    rfl
  refine pure_ (i := 11) (N := some 71) (v := ?_) (a' := ?_) #[true, true, true, false, true, false, false, true, true, true, false, true, false, false, false, false, false, false, false, false, false, false] rfl rfl (by kernel_rfl) (fun _ _ _ h => h) (Or.inl ⟨by rfl, ?_⟩) ?_ ?_
  rotate_left
  · intro w'
    go_simp
    with_reducible rfl
  rotate_left
  · simp only [Act.put, List.setIfInBounds_toArray, List.set_cons_zero, List.set_cons_succ, i64_w, i32_w]
    rfl
  refine pure_ (i := 17) (N := some 77) (v := ?_) (a' := ?_) #[true, true, true, false, true, false, false, true, true, true, false, true, false, false, false, false, false, true, false, false, false, false] rfl rfl (by kernel_rfl) (fun _ _ _ h => h) (Or.inl ⟨by rfl, ?_⟩) ?_ ?_
  rotate_left
  · intro w'
    go_simp
    with_reducible rfl
  rotate_left
  · simp only [Act.put, List.setIfInBounds_toArray, List.set_cons_zero, List.set_cons_succ, i64_w, i32_w]
    rfl
  refine take_ (i := 3) (N := some 63) (v := ?_) (a' := ?_) #[true, true, true, true, true, false, false, true, true, true, false, true, false, false, false, false, false, true, false, false, false, false] rfl rfl (by kernel_rfl) (fun _ _ _ h => h) (Or.inl ⟨by rfl, ?_⟩) hHeld ?_ ?_
  rotate_left
  · rintro w' ⟨s0, s1, s2⟩
    go_simp
    with_reducible rfl
  rotate_left
  · simp only [Act.put, List.setIfInBounds_toArray, List.set_cons_zero, List.set_cons_succ, i64_w, i32_w]
    rfl
  refine pure_ (i := 5) (N := some 65) (v := ?_) (a' := ?_) #[true, true, true, true, true, true, false, true, true, true, false, true, false, false, false, false, false, true, false, false, false, false] rfl rfl (by kernel_rfl) (fun _ _ _ h => h) (Or.inl ⟨by rfl, ?_⟩) ?_ ?_
  rotate_left
  · intro w'
    go_simp
    with_reducible rfl
  rotate_left
  · simp only [Act.put, List.setIfInBounds_toArray, List.set_cons_zero, List.set_cons_succ, i64_w, i32_w]
    rfl
  refine take_ (i := 6) (N := some 66) (v := ?_) (a' := ?_) #[true, true, true, true, true, true, true, true, true, true, false, true, false, false, false, false, false, true, false, false, false, false] rfl rfl (by kernel_rfl) (fun _ _ _ h => h) (Or.inl ⟨by rfl, ?_⟩) hHeld ?_ ?_
  rotate_left
  · rintro w' ⟨s0, s1, s2⟩
    go_simp
    with_reducible rfl
  rotate_left
  · simp only [Act.put, List.setIfInBounds_toArray, List.set_cons_zero, List.set_cons_succ, i64_w, i32_w]
    rfl
  refine take_ (i := 10) (N := some 70) (v := ?_) (a' := ?_) #[true, true, true, true, true, true, true, true, true, true, true, true, false, false, false, false, false, true, false, false, false, false] rfl rfl (by kernel_rfl) (fun _ _ _ h => h) (Or.inl ⟨by rfl, ?_⟩) hHeld ?_ ?_
  rotate_left
  · rintro w' ⟨s0, s1, s2⟩
    go_simp
    with_reducible rfl
  rotate_left
  · simp only [Act.put, List.setIfInBounds_toArray, List.set_cons_zero, List.set_cons_succ, i64_w, i32_w]
    rfl
  refine pure_ (i := 12) (N := some 72) (v := ?_) (a' := ?_) #[true, true, true, true, true, true, true, true, true, true, true, true, true, false, false, false, false, true, false, false, false, false] rfl rfl (by kernel_rfl) (fun _ _ _ h => h) (Or.inl ⟨by rfl, ?_⟩) ?_ ?_
  rotate_left
  · intro w'
    go_simp
    with_reducible rfl
  rotate_left
  · simp only [Act.put, List.setIfInBounds_toArray, List.set_cons_zero, List.set_cons_succ, i64_w, i32_w]
    rfl
  refine take_ (i := 13) (N := some 73) (v := ?_) (a' := ?_) #[true, true, true, true, true, true, true, true, true, true, true, true, true, true, false, false, false, true, false, false, false, false] rfl rfl (by kernel_rfl) (fun _ _ _ h => h) (Or.inl ⟨by rfl, ?_⟩) hHeld ?_ ?_
  rotate_left
  · rintro w' ⟨s0, s1, s2⟩
    go_simp
    with_reducible rfl
  rotate_left
  · simp only [Act.put, List.setIfInBounds_toArray, List.set_cons_zero, List.set_cons_succ, i64_w, i32_w]
    rfl
  refine pure_ (i := 14) (N := some 74) (v := ?_) (a' := ?_) #[true, true, true, true, true, true, true, true, true, true, true, true, true, true, true, false, false, true, false, false, false, false] rfl rfl (by kernel_rfl) (fun _ _ _ h => h) (Or.inl ⟨by rfl, ?_⟩) ?_ ?_
  rotate_left
  · intro w'
    go_simp
    with_reducible rfl
  rotate_left
  · simp only [Act.put, List.setIfInBounds_toArray, List.set_cons_zero, List.set_cons_succ, i64_w, i32_w]
    rfl
  refine pure_ (i := 15) (N := some 75) (v := ?_) (a' := ?_) #[true, true, true, true, true, true, true, true, true, true, true, true, true, true, true, true, false, true, false, false, false, false] rfl rfl (by kernel_rfl) (fun _ _ _ h => h) (Or.inl ⟨by rfl, ?_⟩) ?_ ?_
  rotate_left
  · intro w'
    go_simp
    with_reducible rfl
  rotate_left
  · simp only [Act.put, List.setIfInBounds_toArray, List.set_cons_zero, List.set_cons_succ, i64_w, i32_w]
    rfl
  refine take_ (i := 16) (N := some 76) (v := ?_) (a' := ?_) #[true, true, true, true, true, true, true, true, true, true, true, true, true, true, true, true, true, true, false, false, false, false] rfl rfl (by kernel_rfl) (fun _ _ _ h => h) (Or.inl ⟨by rfl, ?_⟩) hHeld ?_ ?_
  rotate_left
  · rintro w' ⟨s0, s1, s2⟩
    go_simp
    with_reducible rfl
  rotate_left
  · simp only [Act.put, List.setIfInBounds_toArray, List.set_cons_zero, List.set_cons_succ, i64_w, i32_w]
    rfl
  refine one_ (i := 18) (N := some 78) #[true, true, true, true, true, true, true, true, true, true, true, true, true, true, true, true, true, true, true, false, false, false] rfl rfl (by kernel_rfl) (by decide) (fun K hK => ?_)
  refine append_b_ rfl rfl _ _ rfl (.slice fa (S1.files S.many).b.length fc) _ rfl (by rw [← efv]; exact own_drew HOF.out) (.slice va bs.length vc) bs rfl HV5.out.drew (by have := HTOP.out; omega) ?_
  intro v6 w6 hO6 hg6 hat6
  rw [← efv] at hg6 hat6
  have HT6 := Lib.hid (HT.out w6 v6 hO6 hg6 hat6)
  have kg : Keeps (fun q => (R9.fv S.many).ownBlock = some q) W.drew w6 := (Keeps.refl _ W.drew).grown hg6 (fun k e => .inl e)
  have k6 : w6.cell? ⟨R9.fb S.many, 0, none⟩ = some (R9.fv S.many) := (HBF.out.drew.keeps kg nfb).cell 0
  rw [efv] at k6
  have z6 : w6.frozen? ⟨R9.fb S.many, 0, none⟩ = false := (HBF.out.drew.keeps kg nfb).frozen 0
  obtain ⟨a6, c6, e6⟩ := own_shape hO6
  rw [List.length_append] at e6
  subst e6
  try clear hHeld
  refine hK.out _ _ ⟨(kg.cellSome nD c1), (kg.cellSome nF p1), (kg.cellSome nfb q0)⟩ (fun hHeld => ?_)
  clear hK K
  refine norm_ (a' := ?_) ?_ ?_
  rotate_left
  · show Act.put _ (some 78) _ = _
    simp only [Act.put, List.setIfInBounds_toArray, List.set_cons_zero, List.set_cons_succ, i64_w, i32_w]
    rfl
  refine pure_ (i := 19) (N := some 79) (v := ?_) (a' := ?_) #[true, true, true, true, true, true, true, true, true, true, true, true, true, true, true, true, true, true, true, true, false, false] rfl rfl (by kernel_rfl) (fun _ _ _ h => h) (Or.inl ⟨by rfl, ?_⟩) ?_ ?_
  rotate_left
  · intro w'
    go_simp
    with_reducible rfl
  rotate_left
  · simp only [Act.put, List.setIfInBounds_toArray, List.set_cons_zero, List.set_cons_succ, i64_w, i32_w]
    rfl
  refine pure_ (i := 20) (N := some 80) (v := ?_) (a' := ?_) #[true, true, true, true, true, true, true, true, true, true, true, true, true, true, true, true, true, true, true, true, true, false] rfl rfl (by kernel_rfl) (fun _ _ _ h => h) (Or.inl ⟨by rfl, ?_⟩) ?_ ?_
  rotate_left
  · intro w'
    go_simp
    with_reducible rfl
  rotate_left
  · simp only [Act.put, List.setIfInBounds_toArray, List.set_cons_zero, List.set_cons_succ, i64_w, i32_w]
    rfl
  refine last_ (i := 21) (N := none) #[true, true, true, true, true, true, true, true, true, true, true, true, true, true, true, true, true, true, true, true, true, true] rfl rfl (by kernel_rfl) (by decide) (fun K hK => ?_)
  refine skip_ (w1 := ?_) (by rfl) rfl ?_ ?_
  rotate_left
  · go_simp
    rfl
  try clear hHeld
  refine hK.out _ _ ?_
  clear hK K
  try clear hHeld
  refine done_ (by kernel_rfl) ?_
  go_wp2_with (first | (go_at_call 56; refine HT6.out.mono ?_; rintro e w7 ⟨rfl, hP⟩) | go_in)
  go_ret
  exact hP _
theorem r_append (h : RRep w base fp br R S) (hI : DocI S) (hsm : Small S m) (hm : m < 1000) (hU : S.used ≤ 300000000) (hw0 : base ≤ w.heap.size) {n : Int} {v : Value} {bs : List Int} (hv : Rb w v bs) (hbl : bs.length ≤ 300) (hd : 0 < bs.length → ∀ k, v.ownBlock = some k → ¬ fp k) :
    Calls Try.prog 41 #[.pointer (some ⟨br, 0, none⟩), .int .i64 n, v] w (RPost w base fp br (S.append n bs).1 (.int .i64 (S.append n bs).2)) := by
  cases ho : S.out with
  | true => exact r_append_out h hI hsm hm hU hw0 hv hbl hd ho
  | false =>
    by_cases hmy : mayN n
    · by_cases hr : S.room < S.used + bs.length
      · exact r_append_room h hI hsm hm hU hw0 hv hbl hd ho hmy hr
      · cases ha : atD S.now n with
        | none => exact r_append_none h hI hsm hm hU hw0 hv hbl hd ho hmy hr ha
        | some f => exact r_append_there h hI hsm hm hU hw0 hv hbl hd ho hmy hr ha
    · exact r_append_may h hI hsm hm hU hw0 hv hbl hd ho hmy
end
end Go.Proofs.Ytpckjinlopmbcaa
