/-
  Package herlihy: Step, by phase.
-/
import Derived.Test.YtjfenjnnpikkdaaKh
import Derived.Test.YtjfenjnnpikkdaaKja
set_option linter.unusedVariables false
set_option linter.unusedSimpArgs false
namespace Go.Proofs.Ytjfenjnnpikkdaa
set_option maxRecDepth 100000
open Go.RowKit

/-- How large it may be behind m of its methods. -/
structure HSz (H : HS) (m : Nat) : Prop where
  nodes : H.nodes.length ≤ m + 1
  chain : H.chain.length ≤ m + 1
  many : ∀ p, (H.procs p).many < H.nodes.length
  lenL : ∀ i, (H.nd i).st.L.length ≤ 300
theorem HSz.mono {m m' : Nat} {H : HS} (h : HSz H m) (hm : m ≤ m') : HSz H m' := ⟨by have := h.nodes; omega, by have := h.chain; omega, h.many, h.lenL⟩
theorem HSz.go {m : Nat} {H H' : HS} (h : HSz H m) (hl : H'.nodes.length = H.nodes.length) (hc : H'.chain.length ≤ H.chain.length + 1) (hm : ∀ q, (H'.procs q).many = (H.procs q).many) (hL : ∀ i, (H'.nd i).st.L.length ≤ 300) : HSz H' (m + 1) :=
  ⟨by have := h.nodes; omega, by have := h.chain; omega, fun p => by rw [hm, hl]; exact h.many p, hL⟩
theorem HSz.invoke {m p : Nat} {H : HS} (h : HSz H m) (o : Op3) : HSz (H.invoke p o) (m + 1) := by
  refine ⟨by have := h.nodes; simp [HS.invoke]; omega, by have := h.chain; simp [HS.invoke]; omega, fun q => ?_, fun i => ?_⟩
  · have := h.many q
    by_cases e : q = p
    · subst e; simp [HS.invoke, upd_same]; omega
    · simp [HS.invoke, upd_ne _ _ e]; omega
  · unfold HS.invoke
    rw [nd_append]
    split
    · simp
    · exact h.lenL i
theorem many_upd {f : Nat → HProc} {p : Nat} {x : HProc} (hx : x.many = (f p).many) (q : Nat) : (upd f p x q).many = (f q).many := by
  by_cases e : q = p
  · subst e; rw [upd_same]; exact hx
  · rw [upd_ne _ _ e]
theorem nd_set_L {H : HS} {i : Nat} {v : HNode} {ch : List Nat} {an he : Nat → Nat} {ps : Nat → HProc} (h : ∀ j, (H.nd j).st.L.length ≤ 300) (hv : v.st.L.length ≤ 300) (j : Nat) : ((⟨H.nodes.set i v, ch, an, he, ps⟩ : HS).nd j).st.L.length ≤ 300 := by
  simp only [HS.nd, List.getD_eq_getElem?_getD, List.getElem?_set]
  split
  · split
    · exact hv
    · simp [noNode]
  · have := h j
    simpa only [HS.nd, List.getD_eq_getElem?_getD] using this
theorem HSz.step {n m p : Nat} {H : HS} (h : HSz H m) : HSz (H.step n p).1 (m + 1) := by
  unfold HS.step
  cases hph : (H.procs p).ph with
  | idle => exact h.mono (by omega)
  | announce => exact h.go rfl (by simp [HS.stp, HS.put]) (many_upd rfl) h.lenL
  | lookHead => exact h.go rfl (by simp [HS.stp, HS.put]) (many_upd rfl) h.lenL
  | lookPlace => exact h.go rfl (by simp [HS.stp, HS.put]) (many_upd (by dsimp only; split <;> rfl)) h.lenL
  | take => exact h.go rfl (by simp [HS.stp, HS.put]) (many_upd rfl) h.lenL
  | ask => exact h.go rfl (by simp [HS.stp, HS.put]) (many_upd rfl) h.lenL
  | offer => exact h.go rfl (by simp [HS.stp, HS.put]) (many_upd rfl) h.lenL
  | check => exact h.go rfl (by simp [HS.stp, HS.put]) (many_upd rfl) h.lenL
  | swap => exact h.go rfl (by simp only [HS.stp, HS.put]; split <;> simp) (many_upd rfl) h.lenL
  | follow => exact h.go rfl (by simp [HS.stp, HS.put]) (many_upd rfl) h.lenL
  | reckon => exact h.go (by simp [HS.stp, HS.put, HS.setN]) (by simp [HS.stp, HS.put, HS.setN]) (many_upd rfl) (nd_set_L h.lenL (step_len _ (h.lenL _)))
  | number => exact h.go (by simp [HS.stp, HS.put, HS.setN]) (by simp [HS.stp, HS.put, HS.setN]) (many_upd rfl) (nd_set_L h.lenL (h.lenL _))
  | move => exact h.go rfl (by simp [HS.stp, HS.put]) (many_upd rfl) h.lenL
  | finish => exact h.go rfl (by simp [HS.stp, HS.put]) (many_upd rfl) h.lenL
theorem enterH_announce (args : Array Value) (W : World) : (callFunc 57 args).run Try.prog W = .ok (.enter 57 args) W := by go_simp
theorem enterH_lookHead (args : Array Value) (W : World) : (callFunc 79 args).run Try.prog W = .ok (.enter 79 args) W := by go_simp
theorem enterH_lookPlace (args : Array Value) (W : World) : (callFunc 89 args).run Try.prog W = .ok (.enter 89 args) W := by go_simp
theorem enterH_take (args : Array Value) (W : World) : (callFunc 92 args).run Try.prog W = .ok (.enter 92 args) W := by go_simp
theorem enterH_ask (args : Array Value) (W : World) : (callFunc 98 args).run Try.prog W = .ok (.enter 98 args) W := by go_simp
theorem enterH_offer (args : Array Value) (W : World) : (callFunc 102 args).run Try.prog W = .ok (.enter 102 args) W := by go_simp
theorem enterH_check (args : Array Value) (W : World) : (callFunc 105 args).run Try.prog W = .ok (.enter 105 args) W := by go_simp
theorem enterH_swap (args : Array Value) (W : World) : (callFunc 104 args).run Try.prog W = .ok (.enter 104 args) W := by go_simp
theorem enterH_follow (args : Array Value) (W : World) : (callFunc 106 args).run Try.prog W = .ok (.enter 106 args) W := by go_simp
theorem enterH_reckon (args : Array Value) (W : World) : (callFunc 107 args).run Try.prog W = .ok (.enter 107 args) W := by go_simp
theorem enterH_number (args : Array Value) (W : World) : (callFunc 108 args).run Try.prog W = .ok (.enter 108 args) W := by go_simp
theorem enterH_move (args : Array Value) (W : World) : (callFunc 109 args).run Try.prog W = .ok (.enter 109 args) W := by go_simp
theorem he_step {w : World} {base be n p m : Nat} {R : HRef} {s : St} {H : HS} (h : HRep w base be R n s H) (hp : p < n) (g : HG n s H) (hz : HSz H m) (hm : m < 1000000) (hb : (H.procs p).ph ≠ .idle) :
    Calls Try.prog 34 #[.pointer (some ⟨be, 0, none⟩), .int .i64 p] w (HPost w base be R n s (H.step n p).1 (.tuple #[.int .i64 (H.step n p).2.1, .bool (H.step n p).2.2])) := by
  have hpi := g.pi p hp
  have hown := g.own p hp hb
  have hchain := hz.chain
  have nl : ∀ {a t}, HAt H a t → a < H.nodes.length := fun ha => nd_lt (by have := ha.1; have := ha.2.2; omega)
  have tl : ∀ {a t}, HAt H a t → t ≤ 100000000 := fun ha => by have := ha.len; omega
  unfold HPI at hpi
  have go : (H.step n p).2 = (0, false) → ∀ (f : FuncId), hphV (R.pa p) (H.procs p).ph = bound f (R.pa p) → (∀ args W, (callFunc f args).run Try.prog W = .ok (.enter f args) W) → Calls Try.prog f #[.pointer (some ⟨R.pa p, 0, none⟩)] w (HPost w base be R n s (H.step n p).1 (.tuple #[.int .i64 0, .bool false])) →
      Calls Try.prog 34 #[.pointer (some ⟨be, 0, none⟩), .int .i64 p] w (HPost w base be R n s (H.step n p).1 (.tuple #[.int .i64 (H.step n p).2.1, .bool (H.step n p).2.2])) := by
    intro e2 f h1 h2 h3
    rw [e2]
    exact he_step_go h hp f h1 h2 h3
  cases hph : (H.procs p).ph with
  | idle => exact absurd hph hb
  | announce => exact go (by unfold HS.step; rw [hph]; rfl) _ (by rw [hph]; rfl) enterH_announce (he_announce h hp hph)
  | lookHead =>
    simp only [hph] at hpi
    exact go (by unfold HS.step; rw [hph]; rfl) _ (by rw [hph]; rfl) enterH_lookHead (he_lookHead h hp hph hpi.1)
  | lookPlace =>
    simp only [hph] at hpi
    have ho := nd_lt hpi.2
    refine go (by unfold HS.step; rw [hph]; rfl) _ (by rw [hph]; rfl) enterH_lookPlace ?_
    by_cases hu : (H.procs p).turn < (H.nd (H.procs p).other).place <;> by_cases hm2 : (H.procs p).q + 1 < n
    · exact he_lookPlace_up_more h hp hph ho hpi.1.1 hu hm2
    · exact he_lookPlace_up_end h hp hph ho hpi.1.1 hu hm2
    · exact he_lookPlace_no_more h hp hph ho hpi.1.1 hu hm2
    · exact he_lookPlace_no_end h hp hph ho hpi.1.1 hu hm2
  | take => exact go (by unfold HS.step; rw [hph]; rfl) _ (by rw [hph]; rfl) enterH_take (he_take h hp hph)
  | ask =>
    refine go (by unfold HS.step; rw [hph]; rfl) _ (by rw [hph]; rfl) enterH_ask ?_
    by_cases hc : (H.nd (H.procs p).node).place = 0
    · exact he_ask_no h hp hph hown.2.1 hc
    · exact he_ask_yes h hp hph hown.2.1 hc
  | offer =>
    refine go (by unfold HS.step; rw [hph]; rfl) _ (by rw [hph]; rfl) enterH_offer ?_
    by_cases hc : H.ann ((H.procs p).turn % n) = 0
    · exact he_offer_zero h hp hph hc
    · by_cases hc2 : H.ann ((H.procs p).turn % n) = (H.procs p).node
      · exact he_offer_own h hp hph hc hc2
      · exact he_offer_else h hp hph hc hc2
  | check =>
    simp only [hph] at hpi
    refine go (by unfold HS.step; rw [hph]; rfl) _ (by rw [hph]; rfl) enterH_check ?_
    by_cases hc : (H.nd (H.procs p).other).place = 0
    · exact he_check_yes h hp hph hpi.2.2.2.2 hc
    · exact he_check_no h hp hph hpi.2.2.2.2 hc
  | swap =>
    simp only [hph] at hpi
    exact go (by unfold HS.step; rw [hph]; rfl) _ (by rw [hph]; rfl) enterH_swap (he_swap h hp hph g hpi.1)
  | follow =>
    simp only [hph] at hpi
    exact go (by unfold HS.step; rw [hph]; rfl) _ (by rw [hph]; rfl) enterH_follow (he_follow h hp hph (nl hpi.1))
  | reckon =>
    simp only [hph] at hpi
    refine go (by unfold HS.step; rw [hph]; rfl) _ (by rw [hph]; rfl) enterH_reckon (he_reckon h hp hph (g.clt _ (List.mem_of_getElem? hpi.2)) (nl hpi.1) (fun e => ?_) (hz.lenL _))
    have h1 := hpi.1.2.1
    rw [e] at h1
    have := g.inj h1 hpi.2
    have := hpi.1.1
    omega
  | number =>
    simp only [hph] at hpi
    exact go (by unfold HS.step; rw [hph]; rfl) _ (by rw [hph]; rfl) enterH_number (he_number h hp hph (g.clt _ (List.mem_of_getElem? hpi.2.1)) (tl hpi.1))
  | move =>
    simp only [hph] at hpi
    exact go (by unfold HS.step; rw [hph]; rfl) _ (by rw [hph]; rfl) enterH_move (he_move h hp hph (tl hpi.1))
  | finish =>
    simp only [hph] at hpi
    exact he_step_fin h hp hph hown.2.1 (g.dn _ hown.1 hpi)
end Go.Proofs.Ytjfenjnnpikkdaa
/- Package herlihy: next. -/
namespace Go.Proofs.Ytjfenjnnpikkdaa
set_option maxRecDepth 100000
open Go.RowKit
open Go.Proofs.YtjfenjnnpikkdaaW.PrintLast

theorem upd_self {α : Type} (f : Nat → α) (p : Nat) : upd f p (f p) = f := by
  funext q; unfold upd; split <;> simp_all
/-- What turns the machine's numbers of steps alone. -/
theorem HRep.machine {w w' : World} {base be n : Nat} {R : HRef} {s : St} {H : HS} (h : HRep w base be R n s H) {s' : List Int} (hM : Mach w' R.bm R.vc R.vs ⟨cellsH n H, s'⟩) (hK : Keeps (machF R.bm R.vc R.vs) w w') :
    HRep w' base be { R with steps := s' } n s H := by
  have hp : 0 < n := h.small.1
  have hX := (h.proc 0 hp).blk.keeps hK (h.nP hp)
  have e : H = ⟨H.nodes, H.chain, H.ann, H.head, upd H.procs 0 (H.procs 0)⟩ := by rw [upd_self]
  have ht := h.turn hp (hK.mono fun k hk => .inl hk) H.ann H.head H.chain H.nodes s' rfl (fun i hi => ⟨(H.nd i).place, (H.nd i).done, rfl⟩) (H.procs 0) (R.bef 0) (by rw [← e]; exact hM) hX
  rw [← e, upd_self] at ht
  exact ht
set_option maxRecDepth 100000 in
set_option maxHeartbeats 1600000 in
theorem he_next {w : World} {base be n : Nat} {R : HRef} {s : St} {H : HS} (h : HRep w base be R n s H) {i : Nat} (hi : i < H.nodes.length) :
    Calls Try.prog 54 #[.pointer (some ⟨be, 0, none⟩), .int .i64 i] w fun e w' => e = .returned (.int .i64 (nextOf H.chain i)) ∧ (∃ s', HRep w' base be { R with steps := s' } n s H) ∧ Keeps (machF R.bm R.vc R.vs) w w' := by
  have e4 : w.cell? ⟨be, 4, none⟩ = some (.pointer (some ⟨R.bm, 0, none⟩)) := h.eng.cell 4
  have nE := h.nE
  obtain ⟨gv, cv, e8, gi, gn, nG, nN⟩ := h.viewNode hi
  obtain ⟨cl, hcl⟩ : ∃ cl : Nat, cl = ncell n i + 1 := ⟨_, rfl⟩
  have n2 := gn 1 cl (by decide) hcl
  have hcb : cl < 2 * n + 3 * H.nodes.length := by rw [hcl]; exact ncell_lt hi (by decide)
  have x1 : (0 : Int) ≤ ((i : Nat) : Int) := by omega
  have x2 : ((i : Nat) : Int) < (H.nodes.length : Int) := by omega
  clear gn
  have hRD := rd_h (h.mach.drew) hcb (-1)
  rw [hcl, cval_next, ← hcl] at hRD
  have HRD := Lib.hid hRD
  have HH := Lib.hid h
  clear hcl h hRD
  go_enter Try.func54, Try.ntmps54
  go_wp2_with fail
  refine start_ (n := 16) (S := fun w' => w'.cell? ⟨be, 4, none⟩ = some (.pointer (some ⟨R.bm, 0, none⟩)) ∧ w'.cell? ⟨be, 8, none⟩ = some (.slice (some ⟨gv, 0, none⟩) H.nodes.length cv) ∧ w'.cell? ⟨gv, i, none⟩ = some (.pointer (some ⟨R.na i, 0, none⟩)) ∧ w'.cell? ⟨R.na i, 3, none⟩ = some (.int .i64 cl)) (ds := []) #[false, false, false, false, false, false, false, false, false, false, false, false, false, false, false, false] (by kernel_rfl) rfl rfl ⟨e4, e8, gi, n2⟩ (fun hHeld => ?_)
  refine pure_ (i := 0) (N := some 5) (v := ?_) (a' := ?_) #[true, false, false, false, false, false, false, false, false, false, false, false, false, false, false, false] rfl rfl (by kernel_rfl) (fun _ _ _ h => h) (Or.inl ⟨by rfl, ?_⟩) ?_ ?_
  rotate_left
  · intro w'
    go_simp
    with_reducible rfl
  rotate_left
  · simp only [Act.put, nA, nB, nC, i64_w, i32_w]
    rfl
  refine pure_ (i := 1) (N := some 6) (v := ?_) (a' := ?_) #[true, true, false, false, false, false, false, false, false, false, false, false, false, false, false, false] rfl rfl (by kernel_rfl) (fun _ _ _ h => h) (Or.inl ⟨by rfl, ?_⟩) ?_ ?_
  rotate_left
  · intro w'
    go_simp
    with_reducible rfl
  rotate_left
  · simp only [Act.put, nA, nB, nC, i64_w, i32_w]
    rfl
  refine pure_ (i := 2) (N := some 7) (v := ?_) (a' := ?_) #[true, true, true, false, false, false, false, false, false, false, false, false, false, false, false, false] rfl rfl (by kernel_rfl) (fun _ _ _ h => h) (Or.inl ⟨by rfl, ?_⟩) ?_ ?_
  rotate_left
  · intro w'
    go_simp
    with_reducible rfl
  rotate_left
  · simp only [Act.put, nA, nB, nC, i64_w, i32_w]
    rfl
  refine pure_ (i := 4) (N := some 9) (v := ?_) (a' := ?_) #[true, true, true, false, true, false, false, false, false, false, false, false, false, false, false, false] rfl rfl (by kernel_rfl) (fun _ _ _ h => h) (Or.inl ⟨by rfl, ?_⟩) ?_ ?_
  rotate_left
  · intro w'
    go_simp
    with_reducible rfl
  rotate_left
  · simp only [Act.put, nA, nB, nC, i64_w, i32_w]
    rfl
  refine pure_ (i := 5) (N := some 10) (v := ?_) (a' := ?_) #[true, true, true, false, true, true, false, false, false, false, false, false, false, false, false, false] rfl rfl (by kernel_rfl) (fun _ _ _ h => h) (Or.inl ⟨by rfl, ?_⟩) ?_ ?_
  rotate_left
  · intro w'
    go_simp
    with_reducible rfl
  rotate_left
  · simp only [Act.put, nA, nB, nC, i64_w, i32_w]
    rfl
  refine pure_ (i := 6) (N := some 11) (v := ?_) (a' := ?_) #[true, true, true, false, true, true, true, false, false, false, false, false, false, false, false, false] rfl rfl (by kernel_rfl) (fun _ _ _ h => h) (Or.inl ⟨by rfl, ?_⟩) ?_ ?_
  rotate_left
  · intro w'
    go_simp
    with_reducible rfl
  rotate_left
  · simp only [Act.put, nA, nB, nC, i64_w, i32_w]
    rfl
  refine pure_ (i := 8) (N := some 13) (v := ?_) (a' := ?_) #[true, true, true, false, true, true, true, false, true, false, false, false, false, false, false, false] rfl rfl (by kernel_rfl) (fun _ _ _ h => h) (Or.inl ⟨by rfl, ?_⟩) ?_ ?_
  rotate_left
  · intro w'
    go_simp
    with_reducible rfl
  rotate_left
  · simp only [Act.put, nA, nB, nC, i64_w, i32_w]
    rfl
  refine take_ (i := 3) (N := some 8) (v := ?_) (a' := ?_) #[true, true, true, true, true, true, true, false, true, false, false, false, false, false, false, false] rfl rfl (by kernel_rfl) (fun _ _ _ h => h) (Or.inl ⟨by rfl, ?_⟩) hHeld ?_ ?_
  rotate_left
  · rintro w' ⟨s0, s1, s2, s3⟩
    go_simp
    with_reducible rfl
  rotate_left
  · simp only [Act.put, nA, nB, nC, i64_w, i32_w]
    rfl
  refine take_ (i := 7) (N := some 12) (v := ?_) (a' := ?_) #[true, true, true, true, true, true, true, true, true, false, false, false, false, false, false, false] rfl rfl (by kernel_rfl) (fun _ _ _ h => h) (Or.inl ⟨by rfl, ?_⟩) hHeld ?_ ?_
  rotate_left
  · rintro w' ⟨s0, s1, s2, s3⟩
    go_simp
    with_reducible rfl
  rotate_left
  · simp only [Act.put, nA, nB, nC, i64_w, i32_w]
    rfl
  refine pure_ (i := 9) (N := some 14) (v := ?_) (a' := ?_) #[true, true, true, true, true, true, true, true, true, true, false, false, false, false, false, false] rfl rfl (by kernel_rfl) (fun _ _ _ h => h) (Or.inl ⟨by rfl, ?_⟩) ?_ ?_
  rotate_left
  · intro w'
    go_simp
    with_reducible rfl
  rotate_left
  · simp only [Act.put, nA, nB, nC, i64_w, i32_w]
    rfl
  refine take_ (i := 10) (N := some 15) (v := ?_) (a' := ?_) #[true, true, true, true, true, true, true, true, true, true, true, false, false, false, false, false] rfl rfl (by kernel_rfl) (fun _ _ _ h => h) (Or.inl ⟨by rfl, ?_⟩) hHeld ?_ ?_
  rotate_left
  · rintro w' ⟨s0, s1, s2, s3⟩
    go_simp
    with_reducible rfl
  rotate_left
  · simp only [Act.put, nA, nB, nC, i64_w, i32_w]
    rfl
  refine pure_ (i := 11) (N := some 16) (v := ?_) (a' := ?_) #[true, true, true, true, true, true, true, true, true, true, true, true, false, false, false, false] rfl rfl (by kernel_rfl) (fun _ _ _ h => h) (Or.inl ⟨by rfl, ?_⟩) ?_ ?_
  rotate_left
  · intro w'
    go_simp
    with_reducible rfl
  rotate_left
  · simp only [Act.put, nA, nB, nC, i64_w, i32_w]
    rfl
  refine pure_ (i := 12) (N := some 17) (v := ?_) (a' := ?_) #[true, true, true, true, true, true, true, true, true, true, true, true, true, false, false, false] rfl rfl (by kernel_rfl) (fun _ _ _ h => h) (Or.inl ⟨by rfl, ?_⟩) ?_ ?_
  rotate_left
  · intro w'
    go_simp
    with_reducible rfl
  rotate_left
  · simp only [Act.put, nA, nB, nC, i64_w, i32_w]
    rfl
  refine take_ (i := 13) (N := some 18) (v := ?_) (a' := ?_) #[true, true, true, true, true, true, true, true, true, true, true, true, true, true, false, false] rfl rfl (by kernel_rfl) (fun _ _ _ h => h) (Or.inl ⟨by rfl, ?_⟩) hHeld ?_ ?_
  rotate_left
  · rintro w' ⟨s0, s1, s2, s3⟩
    go_simp
    with_reducible rfl
  rotate_left
  · simp only [Act.put, nA, nB, nC, i64_w, i32_w]
    rfl
  refine one_ (i := 14) (N := some 19) #[true, true, true, true, true, true, true, true, true, true, true, true, true, true, true, false] rfl rfl (by kernel_rfl) (by decide) (fun K hK => ?_)
  refine goes_ Try.func62 (by kernel_rfl) rfl #[.pointer (some ⟨R.bm, 0, none⟩), .int .i64 (-1), .int .i64 cl] (by rfl) rfl rfl (by simp only [List.map_toArray, List.map_cons, List.map_nil]; rfl) ?_
  with_reducible refine (HRD.out).mono ?_
  rintro e w3 ⟨rfl, ⟨s3, hM3⟩, hK3⟩
  refine ⟨_, rfl, ?_⟩
  try clear hHeld
  refine hK.out _ _ ⟨hK3.cellSome nE e4, hK3.cellSome nE e8, hK3.cellSome nG gi, hK3.cellSome nN n2⟩ (fun hHeld => ?_)
  clear hK K
  refine norm_ (a' := ?_) ?_ ?_
  rotate_left
  · show Act.put _ (some 19) _ = _
    simp only [Act.put, nA, nB, nC, i64_w, i32_w]
    rfl
  refine pure_ (i := 15) (N := some 4) (v := ?_) (a' := ?_) #[true, true, true, true, true, true, true, true, true, true, true, true, true, true, true, true] rfl rfl (by kernel_rfl) (fun _ _ _ h => h) (Or.inl ⟨by rfl, ?_⟩) ?_ ?_
  rotate_left
  · intro w'
    go_simp
    with_reducible rfl
  rotate_left
  · simp only [Act.put, nA, nB, nC, i64_w, i32_w]
    rfl
  try clear hHeld
  refine done_ (by kernel_rfl) ?_
  go_wp2_with fail
  go_ret
  have hK : Keeps (machF R.bm R.vc R.vs) w w3 := (Keeps.refl _ _).drew.trans' hK3
  exact ⟨rfl, ⟨s3, HH.out.machine hM3 hK⟩, hK⟩
end Go.Proofs.Ytjfenjnnpikkdaa
/- Package herlihy: Log, its loop's invariant. -/
namespace Go.Proofs.Ytjfenjnnpikkdaa
set_option maxRecDepth 100000
open Go.RowKit

def lenOf : Value → Nat
  | .slice _ n _ => n
  | _ => 0
/-- Where a state's numbers lie while Log goes on: in what was there ahead of it, or in a row of its own. -/
def VLie (w wr : World) (F : Nat → Prop) (gs : Nat) (vg vl : Value) (n : Nat) : Prop :=
  0 < n → ∀ q, vl.ownBlock = some q → (q < w.heap.size ∧ ¬ F q) ∨ (w.heap.size ≤ q ∧ q < wr.heap.size ∧ q ≠ gs ∧ vg.ownBlock ≠ some q)
structure HMid (w wr : World) (base be n : Nat) (R : HRef) (s : St) (H : HS) (gs : Nat) (S : St) (k : Nat) (vl vg : Value) (l : List Rec) (st : List Int) : Prop where
  own0 : ∀ q, w.heap.size ≤ q → R.own q = none ∧ base ≤ q
  machT : ∀ q, machF R.bm R.vc R.vs q → q < w.heap.size
  rep : HRep wr base be { R with steps := st } n s H
  keeps : Keeps (machF R.bm R.vc R.vs) w wr
  box : Blk wr gs #[.int .i64 S.kind, vl, .bool S.isSealed, .int .i64 S.to] 24
  gsG : w.heap.size ≤ gs
  rd : Rd wr vl S.L
  len : S.L.length ≤ 300
  lie : VLie w wr (machF R.bm R.vc R.vs) gs vg vl S.L.length
  recs : Own wr 39 7 vg k (l.flatMap recV)
  recsG : Fresh w.heap.size vg
section
variable {w wr : World} {base be n gs k : Nat} {R : HRef} {s S : St} {H : HS} {vl vg : Value} {l : List Rec} {st : List Int}
theorem HMid.next {w7 : World} {s7 : List Int} (h : HMid w wr base be n R s H gs S k vl vg l st) (hr : HRep w7 base be { R with steps := s7 } n s H) (hK : Keeps (machF R.bm R.vc R.vs) wr w7) : HMid w w7 base be n R s H gs S k vl vg l s7 := by
  have hm := h.machT
  have hg := h.gsG
  refine ⟨h.own0, h.machT, hr, h.keeps.trans' hK, h.box.keeps hK (fun hf => by have := hm _ hf; omega), h.gsG, rd_keeps h.rd hK (fun h0 q hq hf => ?_), h.len, fun h0 q hq => ?_, own_keeps h.recs hK (fun q hq hf => by have := h.recsG q hq; have := hm _ hf; omega), h.recsG⟩
  · rcases h.lie h0 q hq with g | g
    · exact g.2 hf
    · have := hm _ hf; omega
  · have := hK.size
    exact (h.lie h0 q hq).imp id (fun g => ⟨g.1, by omega, g.2.2⟩)
theorem HMid.below {w2 : World} (h : HMid w wr base be n R s H gs S k vl vg l st) (hb : Below wr.heap.size wr w2) : HMid w w2 base be n R s H gs S k vl vg l st := by
  have k2 := Keeps.ofBelow (F := fun _ => False) hb
  have := hb.size
  exact ⟨h.own0, h.machT, h.rep.keeps k2 (fun _ h => h.elim), h.keeps.trans' (k2.mono (fun _ h => h.elim)), h.box.below hb h.box.lt, h.gsG, h.rd.below hb (Nat.le_refl _), h.len, fun h0 q hq => (h.lie h0 q hq).imp id (fun g => ⟨g.1, by omega, g.2.2⟩), own_keeps h.recs k2 (fun _ _ h => h), h.recsG⟩
/-- A round: w2 with a record's block br, w3 behind the object's step, w4 what was written, w6 behind the append. -/
theorem HMid.round {w2 w3 w4 w6 : World} {br : Nat} {vn vg' : Value} {S' : St} {r : Rec} {o : Obj} (h : HMid w w2 base be n R s H gs S k vl vg l st) (hbr : w.heap.size ≤ br) (hbl : br < w2.heap.size) (hgb : gs ≠ br) (hvgb : vg.ownBlock ≠ some br)
    (hvlb : 0 < S.L.length → vl.ownBlock ≠ some br) (rdn : Rd w3 vn S'.L) (hlen : S'.L.length ≤ 300) (bel : Below w2.heap.size w2 w3) (orn : vn = vl ∨ (Own w3 3 1 vn S'.L.length (ints S'.L) ∧ Fresh w2.heap.size vn))
    (k34 : Keeps (fun q => q = gs ∨ q = br) w3 w4) (hB4 : Blk w4 gs #[.int .i64 S'.kind, vn, .bool S'.isSealed, .int .i64 S'.to] 24)
    (hg : (w4.alloc o).grownBy w6 vg.ownBlock) (hown : Own w6 39 7 vg' (k + 1) (l.flatMap recV ++ recV r)) (hat : vg'.ownBlock = vg.ownBlock ∨ vg'.ownBlock = some (w4.alloc o).heap.size) :
    HMid w w6 base be n R s H gs S' (k + 1) vn vg' (l ++ [r]) st := by
  have k46 : Keeps (fun q => vg.ownBlock = some q) w4 w6 := ((Keeps.refl _ w4).alloc o).grown hg (fun q e => .inl e)
  have s3 := bel.size
  have s4 := k34.size
  have s6 := k46.size
  have hls : (w4.alloc o).heap.size = w4.heap.size + 1 := by simp
  have hw2 := h.keeps.size
  have hgl := h.box.lt
  have hgsG := h.gsG
  have hfg : ∀ q, vg.ownBlock = some q → q < w2.heap.size := fun q hq => own_lt h.recs hq
  have h3 := h.below bel
  have hx : ∀ q, (q = gs ∨ q = br) → w.heap.size ≤ q := by
    rintro q (rfl | rfl)
    · exact hgsG
    · exact hbr
  have e6 : w4.heap.size + 1 ≤ w6.heap.size := by have := hg.size; omega
  have hvn : 0 < S'.L.length → ∀ q, vn.ownBlock = some q → (q < w.heap.size ∧ ¬ machF R.bm R.vc R.vs q) ∨ (w.heap.size ≤ q ∧ q < w3.heap.size ∧ q ≠ gs ∧ q ≠ br ∧ vg.ownBlock ≠ some q) := by
    intro h0 q hq
    rcases orn with rfl | ⟨ho, hf⟩
    · have hl := rd_len h3.rd rdn
      rcases h.lie (by omega) q hq with g | g
      · exact .inl g
      · exact .inr ⟨g.1, by omega, g.2.2.1, fun e => hvlb (by omega) (e ▸ hq), g.2.2.2⟩
    · have h1 := hf q hq
      exact .inr ⟨by omega, own_lt ho hq, by omega, by omega, fun e => by have := hfg q e; omega⟩
  have hneg : ¬ vg.ownBlock = some gs := own_blk_ne h.recs h.box (by decide)
  refine ⟨h.own0, h.machT, (h3.rep.keeps k34 (fun q hq => h.own0 q (hx q hq))).keeps k46 (fun q hq => h.own0 q (h.recsG q hq)), (h3.keeps.trans k34 (fun q hq => .inr (hx q hq))).trans k46 (fun q hq => .inr (h.recsG q hq)),
    hB4.keeps k46 hneg, h.gsG, rd_keeps (rd_keeps rdn k34 (fun h0 q hq e => ?_)) k46 (fun h0 q hq e => ?_), hlen, fun h0 q hq => ?_, by simpa using hown, fun q hq => ?_⟩
  · rcases hvn h0 q hq with g | g
    · have := hx q e; omega
    · rcases e with e | e
      · exact g.2.2.1 e
      · exact g.2.2.2.1 e
  · rcases hvn h0 q hq with g | g
    · have := h.recsG q e; omega
    · exact g.2.2.2.2 e
  · rcases hvn h0 q hq with g | g
    · exact .inl g
    · refine .inr ⟨g.1, by omega, g.2.2.1, fun e => ?_⟩
      rcases hat with e1 | e1
      · exact g.2.2.2.2 (e1 ▸ e)
      · rw [e1] at e; injection e with e; omega
  · rcases hat with e1 | e1
    · exact h.recsG q (e1 ▸ hq)
    · rw [e1] at hq; injection hq with hq; omega
end
/-- What Log leaves. -/
def HLogP (w : World) (base be n : Nat) (R : HRef) (s : St) (H : HS) (e : Ending) (w' : World) : Prop :=
  ∃ v' st, e = .returned v' ∧ Own w' 39 7 v' (H.log s).length ((H.log s).flatMap recV) ∧ Fresh w.heap.size v' ∧ HRep w' base be { R with steps := st } n s H ∧ Keeps (machF R.bm R.vc R.vs) w w'
theorem log_len (s : St) (H : HS) : (H.log s).length = H.chain.length - 1 := by unfold HS.log; rw [logGo_length, List.length_drop]
theorem log_take {s : St} {H : HS} {k i : Nat} (hi : H.chain[k + 1]? = some i) : (H.log s).take (k + 1) = (H.log s).take k ++ [⟨k, (H.nd i).proc, (H.nd i).seq, (H.nd i).op, (stepS (behind s ((H.log s).take k)) (H.nd i).op).2⟩] := by
  have h1 : (H.chain.drop 1)[k]? = some i := by rw [List.getElem?_drop, Nat.add_comm]; exact hi
  have h2 := logGo_get H.nd (H.chain.drop 1) 0 s h1
  obtain ⟨hl, he⟩ := List.getElem?_eq_some_iff.1 h2
  have h3 : (H.log s).take (k + 1) = (H.log s).take k ++ [(H.log s)[k]'hl] := List.take_succ_eq_append_getElem hl
  rw [h3]
  congr 2
  refine he.trans ?_
  rw [← logGo_take]
  simp [HS.log]
end Go.Proofs.Ytjfenjnnpikkdaa
/- Package herlihy: Log. -/
namespace Go.Proofs.Ytjfenjnnpikkdaa
set_option maxRecDepth 100000
open Go.RowKit
open Go.Proofs.YtjfenjnnpikkdaaW.PrintLast

set_option maxRecDepth 100000 in
set_option maxHeartbeats 6400000 in
theorem he_log {w : World} {base be n : Nat} {R : HRef} {s : St} {H : HS} (h : HRep w base be R n s H) (g : HG n s H) (hs : s.L.length ≤ 300) (hcl : H.chain.length ≤ 100000000) :
    Calls Try.prog 30 #[.pointer (some ⟨be, 0, none⟩)] w (HLogP w base be n R s H) := by
  have h0 : 0 < H.nodes.length := g.clt 0 (List.mem_of_getElem? g.c0)
  have hc0 : 0 < H.chain.length := (List.getElem?_eq_some_iff.1 g.c0).1
  have own0 : ∀ q, w.heap.size ≤ q → R.own q = none ∧ base ≤ q := fun q hq => by
    refine ⟨?_, ?_⟩
    · cases e : R.own q with
      | none => rfl
      | some t => have := h.fresh q (by rw [e]; simp); omega
    · have := h.fresh be (by rw [h.engT]; simp); omega
  have machT : ∀ q, machF R.bm R.vc R.vs q → q < w.heap.size := fun q hq => h.mach.lt hq
  obtain ⟨av, cv0, hsv, -⟩ := id h.start
  have e0 : w.cell? ⟨be, 0, none⟩ = some (.int .i64 s.kind) := h.eng.cell 0
  have e1 : w.cell? ⟨be, 1, none⟩ = some R.sv := h.eng.cell 1
  have e2 : w.cell? ⟨be, 2, none⟩ = some (.bool s.isSealed) := h.eng.cell 2
  have e3 : w.cell? ⟨be, 3, none⟩ = some (.int .i64 s.to) := h.eng.cell 3
  have hb1 : Below w.heap.size w (w.alloc (.cells #[.int .i64 s.kind, R.sv, .bool s.isSealed, .int .i64 s.to] 24)) := (Below.refl _ _).alloc (Nat.le_refl _) _
  have hM1 : HMid w (w.alloc (.cells #[.int .i64 s.kind, R.sv, .bool s.isSealed, .int .i64 s.to] 24)) base be n R s H w.heap.size s 0 R.sv (.slice none 0 0) [] R.steps := by
    have k1 := Keeps.ofBelow (F := fun _ => False) hb1
    refine ⟨own0, machT, h.keeps k1 (fun _ h => h.elim), k1.mono (fun _ h => h.elim), Blk.new _ _ _, Nat.le_refl _, h.start.below hb1 (Nat.le_refl _), hs, fun hl q hq => .inl ⟨rd_block h.start hl q hq, fun hf => ?_⟩, World.ownsRow_nil .., fun q hq => by simp [Value.ownBlock] at hq⟩
    have hm := h.machT q hf
    rcases h.startT hl q hq with e | e
    · rw [hm] at e; simp at e
    · have := (h.fresh q (by rw [hm]; simp)).1; omega
  rw [hsv] at e1 hM1
  have hN := he_next hM1.rep h0
  have hz : nextOf H.chain 0 = H.chain.getD 1 0 := by
    have := nextOf_at H.chain 0 g.nodup hc0
    rwa [show H.chain.getD 0 0 = 0 by rw [List.getD_eq_getElem?_getD, g.c0]; rfl] at this
  rw [hz] at hN
  have HN := Lib.hid hN
  have HM1 := Lib.hid hM1
  have HH := Lib.hid h
  have G := Lib.hid g
  have HSV := Lib.hid hsv
  clear h g hN hM1 hb1 hz own0 machT hsv
  go_enter Try.func30, Try.ntmps30
  go_wp2_with (go_at_call 54; refine HN.out.mono ?_; rintro e w2 ⟨rfl, ⟨s2, hr2⟩, hK2⟩)
  have hM2 := HM1.out.next hr2 hK2
  clear hr2 hK2 HM1 HN e0 e1 e2 e3
  go_loopw [3, 5] (fun lv iv wr => ∃ (k : Nat) (vl vg : Value) (st : List Int), k + 1 ≤ H.chain.length ∧ lv = vg ∧ iv = .int .i64 (H.chain.getD (k + 1) 0 : Nat) ∧ HMid w wr base be n R s H w.heap.size (behind s ((H.log s).take k)) k vl vg ((H.log s).take k) st) (fun lv _ _ => H.chain.length - lenOf lv)
  case atStart => exact ⟨0, _, _, _, by omega, rfl, rfl, by simpa [behind] using hM2⟩
  case round =>
    obtain ⟨k, vl, vg, st, hk, rfl, rfl, hM⟩ := hrel
    clear hM2
    obtain ⟨S, hS⟩ : ∃ S, S = behind s ((H.log s).take k) := ⟨_, rfl⟩
    rw [← hS] at hM
    obtain ⟨ag, cg, rfl⟩ := own_shape hM.recs
    by_cases hlt : k + 1 < H.chain.length
    · obtain ⟨i, hi⟩ : ∃ i, H.chain[k + 1]? = some i := ⟨_, List.getElem?_eq_getElem hlt⟩
      have hgd : H.chain.getD (k + 1) 0 = i := by rw [List.getD_eq_getElem?_getD, hi]; rfl
      have hin : i < H.nodes.length := G.out.clt _ (List.mem_of_getElem? hi)
      have hine : i ≠ 0 := fun e => by
        subst e
        have := G.out.inj hi G.out.c0
        omega
      have hnx : nextOf H.chain i = H.chain.getD (k + 1 + 1) 0 := by
        have := nextOf_at H.chain (k + 1) G.out.nodup hlt
        rwa [hgd] at this
      have hlt2 := log_take (s := s) hi
      rw [← hS] at hlt2
      have hbe : behind s ((H.log s).take (k + 1)) = (stepS S (H.nd i).op).1 := by rw [hlt2, behind_snoc, ← hS]
      rw [hgd]
      have hb : (((i : Nat) : Int) != 0) = true := by simp; exact hine
      obtain ⟨gv, cv, e8, gi, -, -, -⟩ := hM.rep.viewNode hin
      obtain ⟨ti, vi, bi, -, -⟩ := hM.rep.node i hin
      have x1 : (0 : Int) ≤ ((i : Nat) : Int) := by omega
      have x2 : ((i : Nat) : Int) < (H.nodes.length : Int) := by omega
      have n0 : wr.cell? ⟨R.na i, 0, none⟩ = some (.int .i64 (H.nd i).proc) := bi.cell 0
      have n1 : wr.cell? ⟨R.na i, 1, none⟩ = some (.int .i64 (H.nd i).seq) := bi.cell 1
      have n5 : wr.cell? ⟨R.na i, 5, none⟩ = some (.int .i64 (H.nd i).op.code) := bi.cell 5
      have n6 : wr.cell? ⟨R.na i, 6, none⟩ = some (.int .i64 (H.nd i).op.a) := bi.cell 6
      have n7 : wr.cell? ⟨R.na i, 7, none⟩ = some (.int .i64 (H.nd i).op.b) := bi.cell 7
      have HM := Lib.hid hM
      have HBI := Lib.hid bi
      have HLT := Lib.hid hlt2
      have HBE' := Lib.hid hbe
      have HNX := Lib.hid hnx
      clear hM bi hlt2 hbe hnx hgd hS hi ti
      go_wp2_with fail
      refine start_ (n := 17) (S := fun w' => w'.cell? ⟨R.na i, 0, none⟩ = some (.int .i64 (H.nd i).proc) ∧ w'.cell? ⟨R.na i, 1, none⟩ = some (.int .i64 (H.nd i).seq) ∧ w'.cell? ⟨R.na i, 5, none⟩ = some (.int .i64 (H.nd i).op.code) ∧ w'.cell? ⟨R.na i, 6, none⟩ = some (.int .i64 (H.nd i).op.a) ∧ w'.cell? ⟨R.na i, 7, none⟩ = some (.int .i64 (H.nd i).op.b)) (ds := [16]) #[false, false, false, false, false, false, false, false, false, false, false, false, false, false, false, false, false] (by kernel_rfl) rfl rfl ⟨n0, n1, n5, n6, n7⟩ (fun hHeld => ?_)
      refine pure_ (i := 0) (N := some 26) (v := ?_) (a' := ?_) #[true, false, false, false, false, false, false, false, false, false, false, false, false, false, false, false, false] rfl rfl (by kernel_rfl) (fun _ _ _ h => h) (Or.inl ⟨by rfl, ?_⟩) ?_ ?_
      rotate_left
      · intro w'
        go_simp
        with_reducible rfl
      rotate_left
      · simp only [Act.put, nA, nB, nC, i64_w, i32_w]
        rfl
      refine pure_ (i := 1) (N := some 27) (v := ?_) (a' := ?_) #[true, true, false, false, false, false, false, false, false, false, false, false, false, false, false, false, false] rfl rfl (by kernel_rfl) (fun _ _ _ h => h) (Or.inl ⟨by rfl, ?_⟩) ?_ ?_
      rotate_left
      · intro w'
        go_simp
        with_reducible rfl
      rotate_left
      · simp only [Act.put, nA, nB, nC, i64_w, i32_w]
        rfl
      refine pure_ (i := 2) (N := some 28) (v := ?_) (a' := ?_) #[true, true, true, false, false, false, false, false, false, false, false, false, false, false, false, false, false] rfl rfl (by kernel_rfl) (fun _ _ _ h => h) (Or.inl ⟨by rfl, ?_⟩) ?_ ?_
      rotate_left
      · intro w'
        go_simp
        with_reducible rfl
      rotate_left
      · simp only [Act.put, nA, nB, nC, i64_w, i32_w]
        rfl
      refine pure_ (i := 3) (N := some 29) (v := ?_) (a' := ?_) #[true, true, true, true, false, false, false, false, false, false, false, false, false, false, false, false, false] rfl rfl (by kernel_rfl) (fun _ _ _ h => h) (Or.inl ⟨by rfl, ?_⟩) ?_ ?_
      rotate_left
      · intro w'
        go_simp
        with_reducible rfl
      rotate_left
      · simp only [Act.put, nA, nB, nC, i64_w, i32_w]
        rfl
      refine pure_ (i := 4) (N := some 30) (v := ?_) (a' := ?_) #[true, true, true, true, true, false, false, false, false, false, false, false, false, false, false, false, false] rfl rfl (by kernel_rfl) (fun _ _ _ h => h) (Or.inl ⟨by rfl, ?_⟩) ?_ ?_
      rotate_left
      · intro w'
        go_simp
        with_reducible rfl
      rotate_left
      · simp only [Act.put, nA, nB, nC, i64_w, i32_w]
        rfl
      refine pure_ (i := 6) (N := some 32) (v := ?_) (a' := ?_) #[true, true, true, true, true, false, true, false, false, false, false, false, false, false, false, false, false] rfl rfl (by kernel_rfl) (fun _ _ _ h => h) (Or.inl ⟨by rfl, ?_⟩) ?_ ?_
      rotate_left
      · intro w'
        go_simp
        with_reducible rfl
      rotate_left
      · simp only [Act.put, nA, nB, nC, i64_w, i32_w]
        rfl
      refine pure_ (i := 7) (N := some 33) (v := ?_) (a' := ?_) #[true, true, true, true, true, false, true, true, false, false, false, false, false, false, false, false, false] rfl rfl (by kernel_rfl) (fun _ _ _ h => h) (Or.inl ⟨by rfl, ?_⟩) ?_ ?_
      rotate_left
      · intro w'
        go_simp
        with_reducible rfl
      rotate_left
      · simp only [Act.put, nA, nB, nC, i64_w, i32_w]
        rfl
      refine pure_ (i := 8) (N := some 34) (v := ?_) (a' := ?_) #[true, true, true, true, true, false, true, true, true, false, false, false, false, false, false, false, false] rfl rfl (by kernel_rfl) (fun _ _ _ h => h) (Or.inl ⟨by rfl, ?_⟩) ?_ ?_
      rotate_left
      · intro w'
        go_simp
        with_reducible rfl
      rotate_left
      · simp only [Act.put, nA, nB, nC, i64_w, i32_w]
        rfl
      refine pure_ (i := 10) (N := some 36) (v := ?_) (a' := ?_) #[true, true, true, true, true, false, true, true, true, false, true, false, false, false, false, false, false] rfl rfl (by kernel_rfl) (fun _ _ _ h => h) (Or.inl ⟨by rfl, ?_⟩) ?_ ?_
      rotate_left
      · intro w'
        go_simp
        with_reducible rfl
      rotate_left
      · simp only [Act.put, nA, nB, nC, i64_w, i32_w]
        rfl
      refine pure_ (i := 11) (N := some 37) (v := ?_) (a' := ?_) #[true, true, true, true, true, false, true, true, true, false, true, true, false, false, false, false, false] rfl rfl (by kernel_rfl) (fun _ _ _ h => h) (Or.inl ⟨by rfl, ?_⟩) ?_ ?_
      rotate_left
      · intro w'
        go_simp
        with_reducible rfl
      rotate_left
      · simp only [Act.put, nA, nB, nC, i64_w, i32_w]
        rfl
      refine pure_ (i := 12) (N := some 38) (v := ?_) (a' := ?_) #[true, true, true, true, true, false, true, true, true, false, true, true, true, false, false, false, false] rfl rfl (by kernel_rfl) (fun _ _ _ h => h) (Or.inl ⟨by rfl, ?_⟩) ?_ ?_
      rotate_left
      · intro w'
        go_simp
        with_reducible rfl
      rotate_left
      · simp only [Act.put, nA, nB, nC, i64_w, i32_w]
        rfl
      refine take_ (i := 5) (N := some 31) (v := ?_) (a' := ?_) #[true, true, true, true, true, true, true, true, true, false, true, true, true, false, false, false, false] rfl rfl (by kernel_rfl) (fun _ _ _ h => h) (Or.inl ⟨by rfl, ?_⟩) hHeld ?_ ?_
      rotate_left
      · rintro w' ⟨s0, s1, s2, s3, s4⟩
        go_simp
        with_reducible rfl
      rotate_left
      · simp only [Act.put, nA, nB, nC, i64_w, i32_w]
        rfl
      refine take_ (i := 9) (N := some 35) (v := ?_) (a' := ?_) #[true, true, true, true, true, true, true, true, true, true, true, true, true, false, false, false, false] rfl rfl (by kernel_rfl) (fun _ _ _ h => h) (Or.inl ⟨by rfl, ?_⟩) hHeld ?_ ?_
      rotate_left
      · rintro w' ⟨s0, s1, s2, s3, s4⟩
        go_simp
        with_reducible rfl
      rotate_left
      · simp only [Act.put, nA, nB, nC, i64_w, i32_w]
        rfl
      refine take_ (i := 13) (N := some 39) (v := ?_) (a' := ?_) #[true, true, true, true, true, true, true, true, true, true, true, true, true, true, false, false, false] rfl rfl (by kernel_rfl) (fun _ _ _ h => h) (Or.inl ⟨by rfl, ?_⟩) hHeld ?_ ?_
      rotate_left
      · rintro w' ⟨s0, s1, s2, s3, s4⟩
        go_simp
        with_reducible rfl
      rotate_left
      · simp only [Act.put, nA, nB, nC, i64_w, i32_w]
        rfl
      refine pure_ (i := 14) (N := some 40) (v := ?_) (a' := ?_) #[true, true, true, true, true, true, true, true, true, true, true, true, true, true, true, false, false] rfl rfl (by kernel_rfl) (fun _ _ _ h => h) (Or.inl ⟨by rfl, ?_⟩) ?_ ?_
      rotate_left
      · intro w'
        go_simp
        with_reducible rfl
      rotate_left
      · simp only [Act.put, nA, nB, nC, i64_w, i32_w]
        rfl
      refine one_ (i := 15) (N := some 7) #[true, true, true, true, true, true, true, true, true, true, true, true, true, true, true, true, false] rfl rfl (by kernel_rfl) (by decide) (fun K hK => ?_)
      refine value_ (w1 := ?_) (v := ?_) (by rfl) rfl ?_ ?_
      rotate_left 2
      · go_simp
        constructor
        · rfl
        · rfl
      try clear hHeld
      refine hK.out _ _ ⟨Lib.cell?_alloc_some _ n0, Lib.cell?_alloc_some _ n1, Lib.cell?_alloc_some _ n5, Lib.cell?_alloc_some _ n6, Lib.cell?_alloc_some _ n7⟩ (fun hHeld => ?_)
      clear hK K
      refine norm_ (a' := ?_) ?_ ?_
      rotate_left
      · show Act.put _ (some 7) _ = _
        simp only [Act.put, nA, nB, nC, i64_w, i32_w]
        rfl
      refine last_ (i := 16) (N := none) #[true, true, true, true, true, true, true, true, true, true, true, true, true, true, true, true, true] rfl rfl (by kernel_rfl) (by decide) (fun K hK => ?_)
      refine skip_ (w1 := ?_) (by rfl) rfl ?_ ?_
      rotate_left
      · go_simp
        rfl
      try clear hHeld
      refine hK.out _ _ ?_
      clear hK K
      try clear hHeld
      refine done_ (by kernel_rfl) ?_
      go_wp2_with fail
      clear n0 n1 n5 n6 n7 e8 gi x1 x2 hb
      have hR2 := (Blk.new wr #[.int .i64 k, .int .i64 (H.nd i).proc, .int .i64 (H.nd i).seq, .int .i64 (H.nd i).op.code, .int .i64 (H.nd i).op.a, .int .i64 (H.nd i).op.b, .int .i64 0] 39).drew
      have hb2 : Below wr.heap.size wr (wr.alloc (.cells #[.int .i64 k, .int .i64 (H.nd i).proc, .int .i64 (H.nd i).seq, .int .i64 (H.nd i).op.code, .int .i64 (H.nd i).op.a, .int .i64 (H.nd i).op.b, .int .i64 0] 39)).drew := ((Below.refl _ _).alloc (Nat.le_refl _) (.cells #[.int .i64 k, .int .i64 (H.nd i).proc, .int .i64 (H.nd i).seq, .int .i64 (H.nd i).op.code, .int .i64 (H.nd i).op.a, .int .i64 (H.nd i).op.b, .int .i64 0] 39)).drew
      have hM2 := HM.out.below hb2
      have hI2 := (HBI.out.alloc (.cells #[.int .i64 k, .int .i64 (H.nd i).proc, .int .i64 (H.nd i).seq, .int .i64 (H.nd i).op.code, .int .i64 (H.nd i).op.a, .int .i64 (H.nd i).op.b, .int .i64 0] 39)).drew
      have hbl : wr.heap.size < ((wr.alloc (.cells #[.int .i64 k, .int .i64 (H.nd i).proc, .int .i64 (H.nd i).seq, .int .i64 (H.nd i).op.code, .int .i64 (H.nd i).op.a, .int .i64 (H.nd i).op.b, .int .i64 0] 39)).drew).heap.size := hR2.lt
      have hwl := HM.out.keeps.size
      have hgl := HM.out.box.lt
      have hvgl := fun q hq => own_lt (k := q) HM.out.recs hq
      have hvll := fun h0 q hq => rd_block HM.out.rd h0 q hq
      have hIl : R.na i < wr.heap.size := HBI.out.lt
      clear HBI hb2
      generalize (wr.alloc (.cells #[.int .i64 k, .int .i64 (H.nd i).proc, .int .i64 (H.nd i).seq, .int .i64 (H.nd i).op.code, .int .i64 (H.nd i).op.a, .int .i64 (H.nd i).op.b, .int .i64 0] 39)).drew = w2 at *
      generalize hbr : wr.heap.size = br at *
      have HBR := Lib.hid hbr
      clear hbr
      have hst := fun W hx => o_step (w := W) (vl := vl) S (H.nd i).op hx (by have := hM2.len; omega)
      have hl300 := step_len (H.nd i).op hM2.len
      obtain ⟨q, hq⟩ : ∃ q, q = stepS S (H.nd i).op := ⟨_, rfl⟩
      simp only [← hq] at hst
      rw [← hq] at hl300
      have hrd := hM2.rd
      obtain ⟨aw, cw, evw, -⟩ := id hrd
      subst evw
      have m0 : w2.cell? ⟨w.heap.size, 0, none⟩ = some (.int .i64 S.kind) := hM2.box.cell 0
      have m1 : w2.cell? ⟨w.heap.size, 1, none⟩ = some (.slice aw S.L.length cw) := hM2.box.cell 1
      have m2 : w2.cell? ⟨w.heap.size, 2, none⟩ = some (.bool S.isSealed) := hM2.box.cell 2
      have m3 : w2.cell? ⟨w.heap.size, 3, none⟩ = some (.int .i64 S.to) := hM2.box.cell 3
      have o5 : w2.cell? ⟨R.na i, 5, none⟩ = some (.int .i64 (H.nd i).op.code) := hI2.cell 5
      have o6 : w2.cell? ⟨R.na i, 6, none⟩ = some (.int .i64 (H.nd i).op.a) := hI2.cell 6
      have o7 : w2.cell? ⟨R.na i, 7, none⟩ = some (.int .i64 (H.nd i).op.b) := hI2.cell 7
      have hB2 := hM2.box
      have hlb : w.heap.size < w2.drew.heap.size := hM2.box.lt
      have hlr : br < w2.drew.heap.size := hR2.lt
      have nbr : w.heap.size ≠ br := by omega
      have nrb : br ≠ w.heap.size := by omega
      have HST := fun W hx => Lib.hid (hst W hx)
      have HQ := Lib.hid hq
      have HM2 := Lib.hid hM2
      clear hst hq hM2
      refine start_ (n := 12) (S := fun w' => w'.cell? ⟨w.heap.size, 0, none⟩ = some (.int .i64 S.kind) ∧ w'.cell? ⟨w.heap.size, 1, none⟩ = some (.slice aw S.L.length cw) ∧ w'.cell? ⟨w.heap.size, 2, none⟩ = some (.bool S.isSealed) ∧ w'.cell? ⟨w.heap.size, 3, none⟩ = some (.int .i64 S.to) ∧ w'.cell? ⟨R.na i, 5, none⟩ = some (.int .i64 (H.nd i).op.code) ∧ w'.cell? ⟨R.na i, 6, none⟩ = some (.int .i64 (H.nd i).op.a) ∧ w'.cell? ⟨R.na i, 7, none⟩ = some (.int .i64 (H.nd i).op.b)) (ds := [9, 11]) #[false, false, false, false, false, false, false, false, false, false, false, false] (by kernel_rfl) rfl rfl ⟨m0, m1, m2, m3, o5, o6, o7⟩ (fun hHeld => ?_)
      refine pure_ (i := 1) (N := some 43) (v := ?_) (a' := ?_) #[false, true, false, false, false, false, false, false, false, false, false, false] rfl rfl (by kernel_rfl) (fun _ _ _ h => h) (Or.inl ⟨by rfl, ?_⟩) ?_ ?_
      rotate_left
      · intro w'
        go_simp
        with_reducible rfl
      rotate_left
      · simp only [Act.put, nA, nB, nC, i64_w, i32_w]
        rfl
      refine pure_ (i := 2) (N := some 44) (v := ?_) (a' := ?_) #[false, true, true, false, false, false, false, false, false, false, false, false] rfl rfl (by kernel_rfl) (fun _ _ _ h => h) (Or.inl ⟨by rfl, ?_⟩) ?_ ?_
      rotate_left
      · intro w'
        go_simp
        with_reducible rfl
      rotate_left
      · simp only [Act.put, nA, nB, nC, i64_w, i32_w]
        rfl
      refine pure_ (i := 3) (N := some 45) (v := ?_) (a' := ?_) #[false, true, true, true, false, false, false, false, false, false, false, false] rfl rfl (by kernel_rfl) (fun _ _ _ h => h) (Or.inl ⟨by rfl, ?_⟩) ?_ ?_
      rotate_left
      · intro w'
        go_simp
        with_reducible rfl
      rotate_left
      · simp only [Act.put, nA, nB, nC, i64_w, i32_w]
        rfl
      refine take_ (i := 0) (N := some 42) (v := ?_) (a' := ?_) #[true, true, true, true, false, false, false, false, false, false, false, false] rfl rfl (by kernel_rfl) (fun _ _ _ h => h) (Or.inl ⟨by rfl, ?_⟩) hHeld ?_ ?_
      rotate_left
      · rintro w' ⟨s0, s1, s2, s3, s4, s5, s6⟩
        go_simp
        with_reducible rfl
      rotate_left
      · simp only [Act.put, nA, nB, nC, i64_w, i32_w]
        rfl
      refine take_ (i := 4) (N := some 46) (v := ?_) (a' := ?_) #[true, true, true, true, true, false, false, false, false, false, false, false] rfl rfl (by kernel_rfl) (fun _ _ _ h => h) (Or.inl ⟨by rfl, ?_⟩) hHeld ?_ ?_
      rotate_left
      · rintro w' ⟨s0, s1, s2, s3, s4, s5, s6⟩
        go_simp
        with_reducible rfl
      rotate_left
      · simp only [Act.put, nA, nB, nC, i64_w, i32_w]
        rfl
      refine one_ (i := 5) (N := some 47) #[true, true, true, true, true, true, false, false, false, false, false, false] rfl rfl (by kernel_rfl) (by decide) (fun K hK => ?_)
      refine goes_ Try.func55 (by kernel_rfl) rfl #[.agg #[.int .i64 S.kind, .slice aw S.L.length cw, .bool S.isSealed, .int .i64 S.to], .agg #[.int .i64 (H.nd i).op.code, .int .i64 (H.nd i).op.a, .int .i64 (H.nd i).op.b]] (by rfl) rfl rfl (by simp only [List.map_toArray, List.map_cons, List.map_nil]; rfl) ?_
      with_reducible refine ((HST _ hrd.drew).out).mono ?_
      rintro e w3 ⟨vn, rfl, rdn, beln, orn⟩
      refine ⟨_, rfl, ?_⟩
      obtain ⟨an, cn, evn, _⟩ := id rdn
      subst evn
      have hB3 : Blk w3 w.heap.size _ _ := hB2.drew.below beln hlb
      have hR3 : Blk w3 br _ _ := hR2.drew.below beln hlr
      have K3 := Keeps.ofBelow (F := fun _ => False) beln
      have n0 := hB3.cell 0
      have n1 := hB3.cell 1
      have n2 := hB3.cell 2
      have n3 := hB3.cell 3
      have fn0 := hB3.frozen 0
      have fn1 := hB3.frozen 1
      have fn2 := hB3.frozen 2
      have fn3 := hB3.frozen 3
      have n6 := hR3.cell 6
      have fn6 := hR3.frozen 6
      try clear hHeld
      refine hK.out _ _ ⟨(K3.cellSome (fun h => h) m0), (K3.cellSome (fun h => h) m1), (K3.cellSome (fun h => h) m2), (K3.cellSome (fun h => h) m3), (K3.cellSome (fun h => h) o5), (K3.cellSome (fun h => h) o6), (K3.cellSome (fun h => h) o7)⟩ (fun hHeld => ?_)
      clear hK K
      refine norm_ (a' := ?_) ?_ ?_
      rotate_left
      · show Act.put _ (some 47) _ = _
        simp only [Act.put, nA, nB, nC, i64_w, i32_w]
        rfl
      refine pure_ (i := 6) (N := some 41) (v := ?_) (a' := ?_) #[true, true, true, true, true, true, true, false, false, false, false, false] rfl rfl (by kernel_rfl) (fun _ _ _ h => h) (Or.inl ⟨by rfl, ?_⟩) ?_ ?_
      rotate_left
      · intro w'
        go_simp
        with_reducible rfl
      rotate_left
      · simp only [Act.put, nA, nB, nC, i64_w, i32_w]
        rfl
      refine pure_ (i := 7) (N := some 48) (v := ?_) (a' := ?_) #[true, true, true, true, true, true, true, true, false, false, false, false] rfl rfl (by kernel_rfl) (fun _ _ _ h => h) (Or.inl ⟨by rfl, ?_⟩) ?_ ?_
      rotate_left
      · intro w'
        go_simp
        with_reducible rfl
      rotate_left
      · simp only [Act.put, nA, nB, nC, i64_w, i32_w]
        rfl
      refine pure_ (i := 8) (N := some 49) (v := ?_) (a' := ?_) #[true, true, true, true, true, true, true, true, true, false, false, false] rfl rfl (by kernel_rfl) (fun _ _ _ h => h) (Or.inl ⟨by rfl, ?_⟩) ?_ ?_
      rotate_left
      · intro w'
        go_simp
        with_reducible rfl
      rotate_left
      · simp only [Act.put, nA, nB, nC, i64_w, i32_w]
        rfl
      refine last_ (i := 9) (N := none) #[true, true, true, true, true, true, true, true, true, true, false, false] rfl rfl (by kernel_rfl) (by decide) (fun K hK => ?_)
      refine skip_ (w1 := ?_) (by rfl) rfl ?_ ?_
      rotate_left
      · go_simp
        rfl
      try clear hHeld
      refine hK.out _ _ ?_
      clear hK K
      refine pure_ (i := 10) (N := some 50) (v := ?_) (a' := ?_) #[true, true, true, true, true, true, true, true, true, true, true, false] rfl rfl (by kernel_rfl) (fun _ _ _ h => h) (Or.inl ⟨by rfl, ?_⟩) ?_ ?_
      rotate_left
      · intro w'
        go_simp
        with_reducible rfl
      rotate_left
      · simp only [Act.put, nA, nB, nC, i64_w, i32_w]
        rfl
      refine last_ (i := 11) (N := none) #[true, true, true, true, true, true, true, true, true, true, true, true] rfl rfl (by kernel_rfl) (by decide) (fun K hK => ?_)
      refine skip_ (w1 := ?_) (by rfl) rfl ?_ ?_
      rotate_left
      · go_simp
        rfl
      try clear hHeld
      refine hK.out _ _ ?_
      clear hK K
      try clear hHeld
      refine done_ (by kernel_rfl) ?_
      clear m0 m1 m2 m3 o5 o6 o7 n0 n1 n2 n3 fn0 fn1 fn2 fn3 n6 fn6 K3
      have hB4 := ((((hB3.set 0 (.int .i64 q.1.kind)).set 1 (.slice an q.1.L.length cn)).set 2 (.bool q.1.isSealed)).set 3 (.int .i64 q.1.to)).other (a := ⟨br, 6, none⟩) nbr (.int .i64 q.2)
      have hR4 := ((((hR3.other (a := ⟨w.heap.size, 0, none⟩) nrb (.int .i64 q.1.kind)).other (a := ⟨w.heap.size, 1, none⟩) nrb (.slice an q.1.L.length cn)).other (a := ⟨w.heap.size, 2, none⟩) nrb (.bool q.1.isSealed)).other (a := ⟨w.heap.size, 3, none⟩) nrb (.int .i64 q.1.to)).set 6 (.int .i64 q.2)
      have K34 : Keeps (fun x => x = w.heap.size ∨ x = br) w3 _ := (((((Keeps.refl _ _).set w.heap.size 0 (.inl (.inl rfl)) (.int .i64 q.1.kind)).set w.heap.size 1 (.inl (.inl rfl)) (.slice an q.1.L.length cn)).set w.heap.size 2 (.inl (.inl rfl)) (.bool q.1.isSealed)).set w.heap.size 3 (.inl (.inl rfl)) (.int .i64 q.1.to)).set br 6 (.inl (.inr rfl)) (.int .i64 q.2)
      clear hB3 hR3
      generalize ((((w3.setCell ⟨w.heap.size, 0, none⟩ (.int .i64 q.1.kind)).setCell ⟨w.heap.size, 1, none⟩ (.slice an q.1.L.length cn)).setCell ⟨w.heap.size, 2, none⟩ (.bool q.1.isSealed)).setCell ⟨w.heap.size, 3, none⟩ (.int .i64 q.1.to)).setCell ⟨br, 6, none⟩ (.int .i64 q.2) = w4 at *
      have t0 : w4.cell? ⟨br, 0, none⟩ = some (.int .i64 k) := hR4.cell 0
      have t1 : w4.cell? ⟨br, 1, none⟩ = some (.int .i64 (H.nd i).proc) := hR4.cell 1
      have t2 : w4.cell? ⟨br, 2, none⟩ = some (.int .i64 (H.nd i).seq) := hR4.cell 2
      have t3 : w4.cell? ⟨br, 3, none⟩ = some (.int .i64 (H.nd i).op.code) := hR4.cell 3
      have t4 : w4.cell? ⟨br, 4, none⟩ = some (.int .i64 (H.nd i).op.a) := hR4.cell 4
      have t5 : w4.cell? ⟨br, 5, none⟩ = some (.int .i64 (H.nd i).op.b) := hR4.cell 5
      have t6 : w4.cell? ⟨br, 6, none⟩ = some (.int .i64 q.2) := hR4.cell 6
      have HG4 := Lib.hid (own_keeps (own_keeps (own_drew HM2.out.recs) (Keeps.ofBelow (F := fun _ => False) beln) (fun _ _ h => h)) K34 (fun x hx hf => by
        rcases hf with rfl | rfl
        · exact own_blk_ne HM2.out.recs HM2.out.box (by decide) hx
        · have := hvgl _ hx; omega))
      have HRD := Lib.hid rdn
      have HBE := Lib.hid beln
      have HOR := Lib.hid orn
      have HK34 := Lib.hid K34
      have HB4 := Lib.hid hB4
      clear rdn beln orn K34 hR4 hB4
      obtain ⟨i0, hi0, hz0, hz1, hz2⟩ := info_parts infoRec
      have HNEW := Lib.hid (cells_new w4 (recV ⟨k, (H.nd i).proc, (H.nd i).seq, (H.nd i).op, q.2⟩) 39)
      go_wp2_with (first | (go_at_call 54; refine HN7.out.mono ?_; rintro e w7 ⟨rfl, ⟨s7, hr7⟩, hK7⟩; have HR7 := Lib.hid hr7; have HK7 := Lib.hid hK7; clear hr7 hK7) | (at_builtin; refine wpList_append_own_at _ rfl _ _ 34 rfl 0 39 i0 (.agg #[.int .i64 0, .int .i64 0, .int .i64 0, .int .i64 0, .int .i64 0, .int .i64 0, .int .i64 0]) 7 56 Try.underlying34 hi0 hz0 hz1 hz2 rfl (by decide) (.slice ag k cg) _ _ rfl (HG4.out.alloc _) ⟨w4.heap.size, 0, none⟩ 1 1 (recV ⟨k, (H.nd i).proc, (H.nd i).seq, (H.nd i).op, q.2⟩) rfl (by simp [recV]) HNEW.out (by intro u hu; simp [recV] at hu; rcases hu with rfl | rfl | rfl | rfl | rfl | rfl | rfl <;> rfl) (by simp only [maxLen]; omega) (by omega) (Nat.zero_le _) ?_; intro v' w6 hown hgrow hnil hat; obtain ⟨a6, c6, rfl⟩ := own_shape hown; have hround := (HM2.out.below (Below.refl _ _).drew).round hwl hlr nbr (fun e => by have := hvgl _ e; omega) (fun h0 e => by have := hvll h0 _ e; omega) HRD.out hl300 HBE.out HOR.out HK34.out HB4.out hgrow hown hat; have hN7 := he_next hround.rep hin; rw [HNX.out] at hN7; have HN7 := Lib.hid hN7; have HROUND := Lib.hid hround; clear hround hN7 hown hgrow hat hnil t0 t1 t2 t3 t4 t5 t6))
      go_roundw
      case rel =>
        have hq := HQ.out
        have hro := HROUND.out.next HR7.out HK7.out
        rw [hq, ← HLT.out, ← HBE'.out] at hro
        have HRO := Lib.hid hro
        clear hro
        first
          | exact ⟨k + 1, _, _, _, by omega, rfl, rfl, HRO.out⟩
          | ((repeat apply Exists.intro); exact ⟨⟨k + 1, _, _, _, by omega, rfl, rfl, HRO.out⟩, rfl⟩)
      case measure => simp [lenOf]; omega
    · have hkn : k + 1 = H.chain.length := by omega
      have hgd : H.chain.getD (k + 1) 0 = 0 := by rw [List.getD_eq_getElem?_getD, List.getElem?_eq_none (by omega)]; rfl
      rw [hgd]
      have hll : (H.log s).length = k := by rw [log_len]; omega
      have htk : (H.log s).take k = H.log s := List.take_of_length_le (by omega)
      have hF : HLogP w base be n R s H (.returned (.slice ag k cg)) wr := by
        refine ⟨_, st, rfl, ?_, hM.recsG, hM.rep, hM.keeps⟩
        have := hM.recs
        rw [htk] at this
        rw [hll]
        exact this
      have HF := Lib.hid hF
      clear hF hM
      go_wp2_with fail
      go_ret
      exact HF.out
end Go.Proofs.Ytjfenjnnpikkdaa
