/- CfiActs: a flash answers every call, in every order, as the document says, and its chip has behind each the document's words. No condition. -/
import Derived.Test.YtcpcnkmhhmccdaaCfiX
import Derived.Test.YtcpcnkmhhmccdaaArgs
import Derived.Test.YtcpcnkmhhmccdaaRWords
import Derived.Deep.RegionHeld3
namespace Go.Proofs.Ytcpcnkmhhmccdaa
open Go.RowKit
set_option linter.unusedVariables false
set_option linter.unusedSimpArgs false
attribute [local go_sem] max2_int min2_int max_two min_two
namespace L03Acts
open Rfl Rcfi Cfi
theorem pair_chip {w0 w w' : World} {S : Nat → Prop} {N gf g bw be rw_ kw re ke : Nat} {s : Cf.Fl} {c' : Nr.C} (h : Pair S w0 w N gf g bw be rw_ kw re ke s) (hO : Own w0 w' g bw be c') (hK : Keep (Nor.Three g bw be) w w') : Half S w0 w' N gf g bw be rw_ kw re ke s { s with c := c' } :=
  ⟨h.fl.chip hO hK (fun j hj => by have o := h.fl.ok.jobs j hj; exact ⟨o.lo, o.hi, o.vlo, o.vhi⟩), h.eo, h.fl.ok, h.box.of (hK.block _ h.box.lt fun d => h.nN (h.fl.three d)), h.ref.keep hK (fun d => h.n1 (h.fl.three d)) (fun d => h.n2 (h.fl.three d)), h.nN, h.n1, h.n2, h.lo⟩
theorem half_relay {w0 w w1 w2 : World} {S : Nat → Prop} {N gf g bw be rw_ kw re ke a ka b kb : Nat} {s s1 s2 : Cf.Fl} (h : Half S w0 w N gf g bw be rw_ kw re ke s s2) (e : Eo s1.errs) (ok : s1.ok) (hp : Rnor.RPost w w1 rw_ re a ka b kb s1.c) (hb : Fbox w2 N a ka b kb (rf s1)) (hk : Keep (fun k => k = N) w1 w2) : Half S w0 w2 N gf g bw be a ka b kb s1 s2 := by
  have F1 := h.fl.then hp.below
  have hi := h.fl.hi
  have nA : ¬ S a := by
    rcases hp.la with d | d
    · rw [d]; exact h.n1
    · intro d2; have := hi _ d2; omega
  have nB : ¬ S b := by
    rcases hp.lb with d | d
    · rw [d]; exact h.n2
    · intro d2; have := hi _ d2; omega
  have lN := h.lo
  refine ⟨F1.other hk (fun k hS hk => h.nN (hk ▸ hS)) (fun k hk => by omega), e, ok, hb, ?_, h.nN, nA, nB, lN⟩
  exact rat_away hp.at_ (h.box.below hp.below) (by decide) (by decide) hk
theorem half_turn {w0 w w' : World} {S : Nat → Prop} {N gf g bw be rw_ kw re ke : Nat} {s s1 s2 : Cf.Fl} (h : Half S w0 w N gf g bw be rw_ kw re ke s s1) (hF : FlashX (Sx S w w') w0 w' gf g bw be s2) (hK : Keep S w w') : Half (Sx S w w') w0 w' N gf g bw be rw_ kw re ke s s2 :=
  ⟨hF, h.eo, h.ok, h.box.of (hK.block _ h.box.lt h.nN), h.ref.keep hK h.n1 h.n2, not_sx h.nN h.box.lt, not_sx h.n1 h.ref.words.lt, not_sx h.n2 h.ref.wear.lt, h.lo⟩
theorem same_post {w w1 : World} {rw_ kw re ke : Nat} {c c' : Nr.C} (R : Rnor.RAt w rw_ kw re ke c) (hc : c' = c) (b : Below w.heap.size w w1) : Rnor.RPost w w1 rw_ re rw_ kw re ke c' := by
  subst hc
  exact Rnor.RPost.same R b
theorem load_run {w : World} {b bw kw be ke : Nat} {F : RF} (h : Fbox w b bw kw be ke F) : (Instr.loadAt 65 (.pointer (some ⟨b, 0, none⟩))).run Try.prog w = .ok (.agg (fa bw kw be ke F)) w := by
  simp only [Instr.loadAt, Instr.sureAddr, Sem.run_bind, Sem.run_pure, Result.andThen_ok, run_loadVar_row w b _ _ _ _ _ h underF rfl (sizeFa _ _ _ _ _)]
theorem exec_f {o : Oper} {a : Go.Act} {w : World} {g bw kw be ke : Nat} {F : RF} (x : Operand) (ho : o.op = .load 65 x) (hx : a.eval x = .pointer (some ⟨g, 0, none⟩)) (hb : Fbox w g bw kw be ke F) : (execOp a.eval o).run Try.prog w = .ok (.value (.agg (fa bw kw be ke F))) w := by
  unfold execOp
  simp only [ho, hx, Instr.loadAt, Instr.sureAddr, Sem.run_bind, Sem.run_pure, Result.andThen_ok, run_loadVar_row w g _ _ _ _ _ hb underF rfl (sizeFa _ _ _ _ _)]
theorem cells_rf {w : World} {N bw kw be ke : Nat} {s : Cf.Fl} (h : Fbox w N bw kw be ke (rf s)) : w.cell? ⟨N, 0, none⟩ = some (.slice (some ⟨bw, 0, none⟩) s.c.words.length kw) ∧ w.cell? ⟨N, 1, none⟩ = some (.slice (some ⟨be, 0, none⟩) s.c.wear.length ke) ∧ w.cell? ⟨N, 2, none⟩ = some (.int .i64 s.c.endure) ∧ w.cell? ⟨N, 3, none⟩ = some (.int .i64 s.c.fuse) ∧ w.cell? ⟨N, 4, none⟩ = some (.int .u32 s.c.pick) ∧ w.cell? ⟨N, 5, none⟩ = some (.bool s.c.off) ∧ ∀ i, w.frozen? ⟨N, i, none⟩ = false := by
  obtain ⟨x0, x1, x2, x3, x4, x5, x6, x7, x8, x73, x74, x75, x76, xf⟩ := h.cells
  exact ⟨x0, x1, x2, x3, x4, x5, xf⟩
/-- The box of an act. -/
def Bx (w : World) (A : Nat) (k t v : Int) : Prop := w.heap[A]? = some (.cells #[.int .u8 k, .int .i64 t, .int .u32 v] 52 (0, 0))
theorem Bx.cells {w : World} {A : Nat} {k t v : Int} (h : Bx w A k t v) : w.cell? ⟨A, 0, none⟩ = some (.int .u8 k) ∧ w.cell? ⟨A, 1, none⟩ = some (.int .i64 t) ∧ w.cell? ⟨A, 2, none⟩ = some (.int .u32 v) := by
  unfold Bx at h
  simp only [World.cell?, h]
  simp
theorem Bx.keep {S : Nat → Prop} {w w' : World} {A : Nat} {k t v : Int} (h : Bx w A k t v) (hK : Keep S w w') (n : ¬ S A) : Bx w' A k t v := (hK.block _ (Array.getElem?_eq_some_iff.1 h).1 n).trans h
theorem Bx.below {w w' : World} {A : Nat} {k t v : Int} (h : Bx w A k t v) (b : Below w.heap.size w w') : Bx w' A k t v := (b.block _ (Array.getElem?_eq_some_iff.1 h).1).trans h
theorem Bx.lt {w : World} {A : Nat} {k t v : Int} (h : Bx w A k t v) : A < w.heap.size := (Array.getElem?_eq_some_iff.1 h).1
theorem start_pair {w w2 w3 w4 : World} {S : Nat → Prop} {gf g bw be rw_ kw re ke : Nat} {c0 : Nr.C} {Z : Array Value} (F : FlashX S w w2 gf g bw be (Cf.new c0)) (h2 : Rnor.RAt w3 rw_ kw re ke c0) (h3 : w2.heap.size ≤ rw_) (h4 : w2.heap.size ≤ re) (h5 : Below w2.heap.size w2 w3)
    (hb4 : Fbox w4 w3.heap.size rw_ kw re ke (fresh c0)) (hk4 : Keep (fun k => k = w3.heap.size) (w3.alloc (.cells Z 65)) w4) : Pair S w w4 w3.heap.size gf g bw be rw_ kw re ke (Cf.new c0) := by
  have hi := F.hi
  have s5 := h5.size
  have so := F.old
  have nN : ¬ S w3.heap.size := fun d => by have := hi _ d; omega
  have b := alloc1_below w3 (.cells Z 65)
  exact ⟨((F.then h5).then b).other hk4 (fun k hS hk => nN (hk ▸ hS)) (fun k hk => by omega), .inl rfl, hb4, rat_away (h2.below b) (heap_alloc_new w3 _) (by decide) (by decide) hk4, nN, fun d => by have := hi _ d; omega, fun d => by have := hi _ d; omega, by omega⟩
set_option maxHeartbeats 40000000 in
set_option maxRecDepth 100000 in
theorem CfiActs_c (a0 : Int) (a1 : Option Addr) (len1 cap1 : Nat) (w : World) (w0 : (Lit.int .u8 a0).wf = true) (s1 : Sh.ok w (.slice 3 (.agg 3 [(0, 1, .int .u8), (1, 1, .int .i64), (2, 1, .int .u32)])) [.slice a1 len1 cap1]) :
    Calls Try.prog 9 #[.int .u8 a0, .slice a1 len1 cap1] w fun e w' => e = .returned (.bool true) ∧ Below w.heap.size w w' := by
  obtain ⟨ks, ts, vs, b, off, hcap, hmax, hk, ht, hv, ha, hcell⟩ := acts_of s1
  have r0 := wf_u8 w0
  clear s1 w0
  by_cases hb : (80 : Int) < (len1 : Int)
  · go_enter Try.func9, Try.ntmps9
    go_wp2_with (first | (go_at_call 10; refine (Cfi.alive_c _).mono ?_; rintro e w1 ⟨rfl, b1⟩))
    go_ret
    exact ⟨rfl, b1⟩
  · have hb' : (len1 : Int) ≤ 80 := by omega
    obtain ⟨en, he, e1, e2⟩ : ∃ en : Int, Hid (a0 % 4 = en) ∧ 0 ≤ en ∧ en ≤ 3 := ⟨a0 % 4, Lib.hid rfl, by omega, by omega⟩
    obtain ⟨c0, H0⟩ : ∃ c, Hid (Nr.new 3 en = c) := ⟨_, Lib.hid rfl⟩
    have HC := Lib.hid hcell
    have HK := Lib.hid hk
    have HT := Lib.hid ht
    have HV := Lib.hid hv
    clear hcell hb hk ht hv
    go_enter Try.func9, Try.ntmps9
    go_upto_region 7 with (first | (go_at_call 10; refine (Cfi.alive_c _).mono ?_; rintro e w1 ⟨rfl, b1⟩) | (go_at_call 11; rw [he.out]; refine (Cfi.begin_c b1 (n := 3) (endure := en) (by decide) (by decide) e1 (Lib.hid (by omega)) H0).mono ?_; rintro e w2 ⟨g, bw, be, gf, rfl, F2⟩) | (go_at_call 22; rw [he.out]; refine (Rnor.new_c (n := 3) (endure := en) (by decide) (by decide) e1 (Lib.hid (by omega)) H0).mono ?_; simp only [Rnor.rv_eq]; rintro e w3 ⟨rw_, rkw, re, rke, rfl, h2, h3, h4, h5⟩) | (refine build_f (bw := rw_) (kw := rkw) (be := re) (ke := rke) (c := c0) rfl _ rfl rfl ?_) | (refine store_f rfl _ _ rfl rfl rfl (heap_alloc_new w3 _) zero77 ?_; intro w4 hb4 hk4 hs4))
    have P0 := start_pair F2 h2 h3 h4 h5 hb4 hk4
    clear hb4 hk4 hs4 h2 h3 h4 h5 b1
    generalize w3.heap.size = N at *
    generalize New w1 w2 = S at *
    clear F2
    go_wp2
    go_loopw [37] (fun i wr => ∃ (S : Nat → Prop) (j rw_ rkw re rke : Nat) (s : Cf.Fl), j ≤ len1 ∧ i = .int .i64 j ∧ Pair S w wr N gf g bw be rw_ rkw re rke s) (fun i _ => len1 - (intOf i).toNat)
    case atStart => exact ⟨S, 0, rw_, rkw, re, rke, Cf.new c0, Nat.zero_le _, rfl, P0⟩
    case round =>
      clear P0
      obtain ⟨S, j, rw_, rkw, re, rke, s, hj, rfl, hI⟩ := hrel
      by_cases hlt : ¬ j < len1
      · have hlt2 : (len1 : Int) ≤ (j : Int) := by omega
        go_wp2
        go_ret
        exact ⟨rfl, hI.fl.own.below⟩
      replace hlt : j < len1 := by omega
      obtain rfl := ha j hlt
      obtain ⟨q0, q1, q2⟩ := HC.out j hlt
      replace q0 := Sl.below_cell hI.fl.own.below q0
      replace q1 := Sl.below_cell hI.fl.own.below q1
      replace q2 := Sl.below_cell hI.fl.own.below q2
      have hlt2 : (j : Int) < (len1 : Int) := by omega
      have hk := HK.out j
      have ht := HT.out j
      have hv := HV.out j
      generalize ks j = kk at *
      generalize ts j = tt at *
      generalize vs j = vv at *
      have NA : Bx (wr.alloc (.cells #[.int .u8 kk, .int .i64 tt, .int .u32 vv] 52)) wr.heap.size kk tt vv := heap_alloc_new wr _
      have hP := hI.below (alloc1_below wr (.cells #[.int .u8 kk, .int .i64 tt, .int .u32 vv] 52))
      have nA : ¬ S wr.heap.size := fun d => Nat.lt_irrefl _ (hI.fl.hi _ d)
      go_upto_region 13 with (fail)
      generalize wr.heap.size = A at *
      generalize wr.alloc (.cells #[.int .u8 kk, .int .i64 tt, .int .u32 vv] 52) = W at *
      clear q0 q1 q2 hI
      obtain ⟨y0, y1, y2⟩ := NA.cells
      by_cases e3 : kk % 8 = 3
      · obtain ⟨⟨v, e⟩, q⟩ : ∃ p, Hid (Cf.read s tt = p) := ⟨_, Lib.hid rfl⟩
        go_upto_region 34 with (first | (go_at_call 13; refine (read_y hP.fl q).mono ?_; rintro x w2 ⟨rfl, b2⟩; have P2 := hP.below b2; have N2 := NA.below b2; clear b2 hP; clear y0 y1 y2; obtain ⟨y0, y1, y2⟩ := N2.cells) | (refine load_f rfl _ rfl rfl P2.box ?_) | (go_at_call 23; refine (read_x P2.ref P2.fl.ok P2.eo q).mono ?_; rintro x w3 ⟨rfl, b3⟩; have P := P2.below b3; clear b3))
        clear e3 hk ht hv
        clear y0 y1 y2
        have PD := P.below (Rnor.drew_below (Below.refl _ _))
        obtain ⟨st, qs⟩ : ∃ v, Hid (Cf.status s = v) := ⟨_, Lib.hid rfl⟩
        have hst := status_y PD.fl qs
        have PX := PD.box
        have x0 := PD.box.cells.1
        have hsz : (rf s).c.words.length ≤ 4096 := by have := PD.ref.ok.size; have := PD.ref.ok.most; show s.c.words.length ≤ 4096; omega
        refine wp_region_noPanic ?_
        refine wp_region_held_drew (S := fun W => Fbox W N rw_ rkw re rke (rf s) ∧ W.cell? ⟨N, 0, none⟩ = some (.slice (some ⟨rw_, 0, none⟩) (rf s).c.words.length rkw)) (by kernel_rfl) ?_ (fun hHeld => ?_)
        · exact ⟨PX, x0⟩
        refine wpAnyH_take (i := 0) (v := ?_) rfl (by kernel_rfl) (by kernel_rfl) (by kernel_rfl) (fun _ _ _ h => h) (Or.inl ⟨by kernel_rfl, ?_⟩) (by assumption) ?_
        rotate_left
        · ((intro w hSw; (try dsimp only at hSw); go_simp) <;> with_reducible rfl)
        (try simp only [Act.put, List.setIfInBounds_toArray, List.set_cons_zero, List.set_cons_succ])
        refine wpAnyH_take (i := 1) (v := ?_) rfl (by kernel_rfl) (by kernel_rfl) (by kernel_rfl) (fun _ _ _ h => h) (Or.inl ⟨by kernel_rfl, ?_⟩) (by assumption) ?_
        rotate_left
        · ((intro w hSw; (try dsimp only at hSw); go_simp) <;> with_reducible rfl)
        (try simp only [Act.put, List.setIfInBounds_toArray, List.set_cons_zero, List.set_cons_succ])
        refine wpAnyH_take (i := 2) (v := ?_) rfl (by kernel_rfl) (by kernel_rfl) (by kernel_rfl) (fun _ _ _ h => h) (Or.inl ⟨by kernel_rfl, ?_⟩) (by assumption) ?_
        rotate_left
        · ((intro w hSw; (try dsimp only at hSw); go_simp) <;> with_reducible rfl)
        (try simp only [Act.put, List.setIfInBounds_toArray, List.set_cons_zero, List.set_cons_succ])
        refine wpAnyH_take (i := 3) (v := ?_) rfl (by kernel_rfl) (by kernel_rfl) (by kernel_rfl) (fun _ _ _ h => h) (Or.inl ⟨by kernel_rfl, ?_⟩) (by assumption) ?_
        rotate_left
        · ((intro w hSw; (try dsimp only at hSw); go_simp) <;> with_reducible rfl)
        (try simp only [Act.put, List.setIfInBounds_toArray, List.set_cons_zero, List.set_cons_succ])
        refine wpAnyH_take (i := 4) (v := ?_) rfl (by kernel_rfl) (by kernel_rfl) (by kernel_rfl) (fun _ _ _ h => h) (Or.inl ⟨by kernel_rfl, ?_⟩) (by assumption) ?_
        rotate_left
        · ((intro w hSw; (try dsimp only at hSw); go_simp) <;> with_reducible rfl)
        (try simp only [Act.put, List.setIfInBounds_toArray, List.set_cons_zero, List.set_cons_succ])
        refine wpAnyH_take (i := 6) (v := .agg (fa rw_ rkw re rke (rf s))) rfl (by kernel_rfl) (by kernel_rfl) (by kernel_rfl) (fun _ _ _ h => h) (Or.inl ⟨by kernel_rfl, fun W hSw => exec_f _ rfl rfl hSw.1⟩) (by assumption) ?_
        (try simp only [Act.put, List.setIfInBounds_toArray, List.set_cons_zero, List.set_cons_succ])
        refine wpAnyH_ready (rs := [5]) (by kernel_rfl) (by simp) ?_
        refine AllReadyH.cons rfl (fun K hK => ?_) AllReadyH.nil
        go_simp
        (go_at_call 17; refine hst.mono ?_; rintro x w5 ⟨rfl, rfl⟩)
        clear hHeld
        refine hK.out _ _ ?_ (fun hHeld => ?_)
        · exact ⟨PX, x0⟩
        clear hK K
        (try simp only [Act.put, List.setIfInBounds_toArray, List.set_cons_zero, List.set_cons_succ])
        refine wpAnyH_ready (rs := [7]) (by kernel_rfl) (by simp) ?_
        refine AllReadyH.cons rfl (fun K hK => ?_) AllReadyH.nil
        go_simp
        (go_at_call 31; refine (status_x PD.eo qs).mono ?_; rintro x w5 ⟨rfl, b5⟩; replace PD := PD.below b5; replace PX := PD.box; replace x0 := PD.box.cells.1; clear b5)
        clear hHeld
        refine hK.out _ _ ?_ (fun hHeld => ?_)
        · exact ⟨PX, x0⟩
        clear hK K
        (try simp only [Act.put, List.setIfInBounds_toArray, List.set_cons_zero, List.set_cons_succ])
        refine wpAnyH_take (i := 8) (v := ?_) rfl (by kernel_rfl) (by kernel_rfl) (by kernel_rfl) (fun _ _ _ h => h) (Or.inl ⟨by kernel_rfl, ?_⟩) (by assumption) ?_
        rotate_left
        · ((intro w hSw; (try dsimp only at hSw); go_simp) <;> with_reducible rfl)
        (try simp only [Act.put, List.setIfInBounds_toArray, List.set_cons_zero, List.set_cons_succ])
        refine wpAnyH_take (i := 9) (v := ?_) rfl (by kernel_rfl) (by kernel_rfl) (by kernel_rfl) (fun _ _ _ h => h) (Or.inl ⟨by kernel_rfl, ?_⟩) (by assumption) ?_
        rotate_left
        · ((intro w hSw; (try dsimp only at hSw); go_simp) <;> with_reducible rfl)
        (try simp only [Act.put, List.setIfInBounds_toArray, List.set_cons_zero, List.set_cons_succ])
        refine wpAnyH_take (i := 10) (v := ?_) rfl (by kernel_rfl) (by kernel_rfl) (by kernel_rfl) (fun _ _ _ h => h) (Or.inl ⟨by kernel_rfl, ?_⟩) (by assumption) ?_
        rotate_left
        · ((intro w hSw; (try dsimp only at hSw); go_simp) <;> with_reducible rfl)
        (try simp only [Act.put, List.setIfInBounds_toArray, List.set_cons_zero, List.set_cons_succ])
        refine wpAnyH_take (i := 11) (v := ?_) rfl (by kernel_rfl) (by kernel_rfl) (by kernel_rfl) (fun _ _ _ h => h) (Or.inl ⟨by kernel_rfl, ?_⟩) (by assumption) ?_
        rotate_left
        · ((intro w hSw; (try dsimp only at hSw); go_simp) <;> with_reducible rfl)
        (try simp only [Act.put, List.setIfInBounds_toArray, List.set_cons_zero, List.set_cons_succ])
        refine wpAnyH_take (i := 13) (v := ?_) rfl (by kernel_rfl) (by kernel_rfl) (by kernel_rfl) (fun _ _ _ h => h) (Or.inl ⟨by kernel_rfl, ?_⟩) (by assumption) ?_
        rotate_left
        · ((intro w hSw; (try dsimp only at hSw); go_simp) <;> with_reducible rfl)
        (try simp only [Act.put, List.setIfInBounds_toArray, List.set_cons_zero, List.set_cons_succ])
        refine wpAnyH_take (i := 14) (v := ?_) rfl (by kernel_rfl) (by kernel_rfl) (by kernel_rfl) (fun _ _ _ h => h) (Or.inl ⟨by kernel_rfl, ?_⟩) (by assumption) ?_
        rotate_left
        · ((intro w hSw; (try dsimp only at hSw); go_simp) <;> with_reducible rfl)
        (try simp only [Act.put, List.setIfInBounds_toArray, List.set_cons_zero, List.set_cons_succ])
        refine wpAnyH_take (i := 15) (v := ?_) rfl (by kernel_rfl) (by kernel_rfl) (by kernel_rfl) (fun _ _ _ h => h) (Or.inl ⟨by kernel_rfl, ?_⟩) (by assumption) ?_
        rotate_left
        · ((intro w hSw; (try dsimp only at hSw); go_simp) <;> with_reducible rfl)
        (try simp only [Act.put, List.setIfInBounds_toArray, List.set_cons_zero, List.set_cons_succ])
        refine wpAnyH_ready (rs := [12]) (by kernel_rfl) (by simp) ?_
        refine AllReadyH.cons rfl (fun K hK => ?_) AllReadyH.nil
        go_simp
        (go_at_call 19; refine (Nor.words_o PD.fl.own (zs := (rf s).c.words) (Lib.hid rfl)).mono ?_; rintro x w6 ⟨r1, k1, rfl, p1, p2, p3, p4, p5⟩; replace PD := PD.below p5; replace PX := PD.box; replace x0 := PD.box.cells.1; clear p4 p5)
        clear hHeld
        refine hK.out _ _ ?_ (fun hHeld => ?_)
        · exact ⟨PX, x0⟩
        clear hK K
        (try simp only [Act.put, List.setIfInBounds_toArray, List.set_cons_zero, List.set_cons_succ])
        refine wpAnyH_ready (rs := [16]) (by kernel_rfl) (by simp) ?_
        refine AllReadyH.cons rfl (fun K hK => ?_) AllReadyH.nil
        go_simp
        (go_at_call 20; refine (Rnor.words_same (zs := (rf s).c.words) p3 PD.ref.words hsz).mono ?_; rintro x w7 ⟨rfl, b7⟩; replace PD := PD.below b7; replace PX := PD.box; replace x0 := PD.box.cells.1; clear b7)
        clear hHeld
        refine hK.out _ _ ?_ (fun hHeld => ?_)
        · exact ⟨PX, x0⟩
        clear hK K
        (try simp only [Act.put, List.setIfInBounds_toArray, List.set_cons_zero, List.set_cons_succ])
        refine wpAnyH_take (i := 17) (v := ?_) rfl (by kernel_rfl) (by kernel_rfl) (by kernel_rfl) (fun _ _ _ h => h) (Or.inl ⟨by kernel_rfl, ?_⟩) (by assumption) ?_
        rotate_left
        · ((intro w hSw; (try dsimp only at hSw); go_simp) <;> with_reducible rfl)
        (try simp only [Act.put, List.setIfInBounds_toArray, List.set_cons_zero, List.set_cons_succ])
        refine wpAnyH_take (i := 18) (v := ?_) rfl (by kernel_rfl) (by kernel_rfl) (by kernel_rfl) (fun _ _ _ h => h) (Or.inl ⟨by kernel_rfl, ?_⟩) (by assumption) ?_
        rotate_left
        · ((intro w hSw; (try dsimp only at hSw); go_simp) <;> with_reducible rfl)
        (try simp only [Act.put, List.setIfInBounds_toArray, List.set_cons_zero, List.set_cons_succ])
        refine wpAnyH_done (by kernel_rfl) ?_ _
        refine NoPanic.normal ?_
        clear hst PX x0 hHeld
        go_wp2
        go_roundw
        case rel => exact ⟨_, j + 1, rw_, rkw, re, rke, s, by omega, by go_num, PD⟩
        case measure => simp [intOf]; omega
      have f3 : (kk % 8 == 3) = false := by simpa using e3
      clear e3
      by_cases e4 : kk % 8 = 4
      · obtain ⟨⟨e, s'⟩, q⟩ : ∃ p, Hid (Cf.tick s tt = p) := ⟨_, Lib.hid rfl⟩
        have eo' : Eo s'.errs := by have := tick_eo hP.eo tt; rw [q.out] at this; exact this
        go_upto_region 34 with (first | (go_at_call 16; refine (tick_y hP.fl q).mono ?_; rintro x w2 ⟨rfl, F2, K2⟩; have H2 := hP.turn F2 K2; have N2 := NA.keep K2 nA; clear F2 K2 hP; clear y0 y1 y2; obtain ⟨y0, y1, y2⟩ := N2.cells) | (refine load_f rfl _ rfl rfl H2.box ?_) | (go_at_call 24; refine (tick_x H2.ref H2.ok H2.eo q).mono ?_; rintro x w3 ⟨ra, ka, rb, kb, rfl, hp3⟩; have B3 := H2.box.below hp3.below) | (refine store_f rfl _ _ rfl rfl rfl B3 (fa_size _ _ _ _ _) ?_; intro w4 hb4 hk4 hs4; clear hs4; have P := H2.laid eo' hp3 hb4 hk4))
        clear f3 e4 hk ht hv
        clear y0 y1 y2
        have PD := P.below (Rnor.drew_below (Below.refl _ _))
        obtain ⟨st, qs⟩ : ∃ v, Hid (Cf.status s' = v) := ⟨_, Lib.hid rfl⟩
        have hst := status_y PD.fl qs
        have PX := PD.box
        have x0 := PD.box.cells.1
        have hsz : (rf s').c.words.length ≤ 4096 := by have := PD.ref.ok.size; have := PD.ref.ok.most; show s'.c.words.length ≤ 4096; omega
        refine wp_region_noPanic ?_
        refine wp_region_held_drew (S := fun W => Fbox W N ra ka rb kb (rf s') ∧ W.cell? ⟨N, 0, none⟩ = some (.slice (some ⟨ra, 0, none⟩) (rf s').c.words.length ka)) (by kernel_rfl) ?_ (fun hHeld => ?_)
        · exact ⟨PX, x0⟩
        refine wpAnyH_take (i := 0) (v := ?_) rfl (by kernel_rfl) (by kernel_rfl) (by kernel_rfl) (fun _ _ _ h => h) (Or.inl ⟨by kernel_rfl, ?_⟩) (by assumption) ?_
        rotate_left
        · ((intro w hSw; (try dsimp only at hSw); go_simp) <;> with_reducible rfl)
        (try simp only [Act.put, List.setIfInBounds_toArray, List.set_cons_zero, List.set_cons_succ])
        refine wpAnyH_take (i := 1) (v := ?_) rfl (by kernel_rfl) (by kernel_rfl) (by kernel_rfl) (fun _ _ _ h => h) (Or.inl ⟨by kernel_rfl, ?_⟩) (by assumption) ?_
        rotate_left
        · ((intro w hSw; (try dsimp only at hSw); go_simp) <;> with_reducible rfl)
        (try simp only [Act.put, List.setIfInBounds_toArray, List.set_cons_zero, List.set_cons_succ])
        refine wpAnyH_take (i := 2) (v := ?_) rfl (by kernel_rfl) (by kernel_rfl) (by kernel_rfl) (fun _ _ _ h => h) (Or.inl ⟨by kernel_rfl, ?_⟩) (by assumption) ?_
        rotate_left
        · ((intro w hSw; (try dsimp only at hSw); go_simp) <;> with_reducible rfl)
        (try simp only [Act.put, List.setIfInBounds_toArray, List.set_cons_zero, List.set_cons_succ])
        refine wpAnyH_take (i := 3) (v := ?_) rfl (by kernel_rfl) (by kernel_rfl) (by kernel_rfl) (fun _ _ _ h => h) (Or.inl ⟨by kernel_rfl, ?_⟩) (by assumption) ?_
        rotate_left
        · ((intro w hSw; (try dsimp only at hSw); go_simp) <;> with_reducible rfl)
        (try simp only [Act.put, List.setIfInBounds_toArray, List.set_cons_zero, List.set_cons_succ])
        refine wpAnyH_take (i := 4) (v := ?_) rfl (by kernel_rfl) (by kernel_rfl) (by kernel_rfl) (fun _ _ _ h => h) (Or.inl ⟨by kernel_rfl, ?_⟩) (by assumption) ?_
        rotate_left
        · ((intro w hSw; (try dsimp only at hSw); go_simp) <;> with_reducible rfl)
        (try simp only [Act.put, List.setIfInBounds_toArray, List.set_cons_zero, List.set_cons_succ])
        refine wpAnyH_take (i := 6) (v := .agg (fa ra ka rb kb (rf s'))) rfl (by kernel_rfl) (by kernel_rfl) (by kernel_rfl) (fun _ _ _ h => h) (Or.inl ⟨by kernel_rfl, fun W hSw => exec_f _ rfl rfl hSw.1⟩) (by assumption) ?_
        (try simp only [Act.put, List.setIfInBounds_toArray, List.set_cons_zero, List.set_cons_succ])
        refine wpAnyH_ready (rs := [5]) (by kernel_rfl) (by simp) ?_
        refine AllReadyH.cons rfl (fun K hK => ?_) AllReadyH.nil
        go_simp
        (go_at_call 17; refine hst.mono ?_; rintro x w5 ⟨rfl, rfl⟩)
        clear hHeld
        refine hK.out _ _ ?_ (fun hHeld => ?_)
        · exact ⟨PX, x0⟩
        clear hK K
        (try simp only [Act.put, List.setIfInBounds_toArray, List.set_cons_zero, List.set_cons_succ])
        refine wpAnyH_ready (rs := [7]) (by kernel_rfl) (by simp) ?_
        refine AllReadyH.cons rfl (fun K hK => ?_) AllReadyH.nil
        go_simp
        (go_at_call 31; refine (status_x PD.eo qs).mono ?_; rintro x w5 ⟨rfl, b5⟩; replace PD := PD.below b5; replace PX := PD.box; replace x0 := PD.box.cells.1; clear b5)
        clear hHeld
        refine hK.out _ _ ?_ (fun hHeld => ?_)
        · exact ⟨PX, x0⟩
        clear hK K
        (try simp only [Act.put, List.setIfInBounds_toArray, List.set_cons_zero, List.set_cons_succ])
        refine wpAnyH_take (i := 8) (v := ?_) rfl (by kernel_rfl) (by kernel_rfl) (by kernel_rfl) (fun _ _ _ h => h) (Or.inl ⟨by kernel_rfl, ?_⟩) (by assumption) ?_
        rotate_left
        · ((intro w hSw; (try dsimp only at hSw); go_simp) <;> with_reducible rfl)
        (try simp only [Act.put, List.setIfInBounds_toArray, List.set_cons_zero, List.set_cons_succ])
        refine wpAnyH_take (i := 9) (v := ?_) rfl (by kernel_rfl) (by kernel_rfl) (by kernel_rfl) (fun _ _ _ h => h) (Or.inl ⟨by kernel_rfl, ?_⟩) (by assumption) ?_
        rotate_left
        · ((intro w hSw; (try dsimp only at hSw); go_simp) <;> with_reducible rfl)
        (try simp only [Act.put, List.setIfInBounds_toArray, List.set_cons_zero, List.set_cons_succ])
        refine wpAnyH_take (i := 10) (v := ?_) rfl (by kernel_rfl) (by kernel_rfl) (by kernel_rfl) (fun _ _ _ h => h) (Or.inl ⟨by kernel_rfl, ?_⟩) (by assumption) ?_
        rotate_left
        · ((intro w hSw; (try dsimp only at hSw); go_simp) <;> with_reducible rfl)
        (try simp only [Act.put, List.setIfInBounds_toArray, List.set_cons_zero, List.set_cons_succ])
        refine wpAnyH_take (i := 11) (v := ?_) rfl (by kernel_rfl) (by kernel_rfl) (by kernel_rfl) (fun _ _ _ h => h) (Or.inl ⟨by kernel_rfl, ?_⟩) (by assumption) ?_
        rotate_left
        · ((intro w hSw; (try dsimp only at hSw); go_simp) <;> with_reducible rfl)
        (try simp only [Act.put, List.setIfInBounds_toArray, List.set_cons_zero, List.set_cons_succ])
        refine wpAnyH_take (i := 13) (v := ?_) rfl (by kernel_rfl) (by kernel_rfl) (by kernel_rfl) (fun _ _ _ h => h) (Or.inl ⟨by kernel_rfl, ?_⟩) (by assumption) ?_
        rotate_left
        · ((intro w hSw; (try dsimp only at hSw); go_simp) <;> with_reducible rfl)
        (try simp only [Act.put, List.setIfInBounds_toArray, List.set_cons_zero, List.set_cons_succ])
        refine wpAnyH_take (i := 14) (v := ?_) rfl (by kernel_rfl) (by kernel_rfl) (by kernel_rfl) (fun _ _ _ h => h) (Or.inl ⟨by kernel_rfl, ?_⟩) (by assumption) ?_
        rotate_left
        · ((intro w hSw; (try dsimp only at hSw); go_simp) <;> with_reducible rfl)
        (try simp only [Act.put, List.setIfInBounds_toArray, List.set_cons_zero, List.set_cons_succ])
        refine wpAnyH_take (i := 15) (v := ?_) rfl (by kernel_rfl) (by kernel_rfl) (by kernel_rfl) (fun _ _ _ h => h) (Or.inl ⟨by kernel_rfl, ?_⟩) (by assumption) ?_
        rotate_left
        · ((intro w hSw; (try dsimp only at hSw); go_simp) <;> with_reducible rfl)
        (try simp only [Act.put, List.setIfInBounds_toArray, List.set_cons_zero, List.set_cons_succ])
        refine wpAnyH_ready (rs := [12]) (by kernel_rfl) (by simp) ?_
        refine AllReadyH.cons rfl (fun K hK => ?_) AllReadyH.nil
        go_simp
        (go_at_call 19; refine (Nor.words_o PD.fl.own (zs := (rf s').c.words) (Lib.hid rfl)).mono ?_; rintro x w6 ⟨r1, k1, rfl, p1, p2, p3, p4, p5⟩; replace PD := PD.below p5; replace PX := PD.box; replace x0 := PD.box.cells.1; clear p4 p5)
        clear hHeld
        refine hK.out _ _ ?_ (fun hHeld => ?_)
        · exact ⟨PX, x0⟩
        clear hK K
        (try simp only [Act.put, List.setIfInBounds_toArray, List.set_cons_zero, List.set_cons_succ])
        refine wpAnyH_ready (rs := [16]) (by kernel_rfl) (by simp) ?_
        refine AllReadyH.cons rfl (fun K hK => ?_) AllReadyH.nil
        go_simp
        (go_at_call 20; refine (Rnor.words_same (zs := (rf s').c.words) p3 PD.ref.words hsz).mono ?_; rintro x w7 ⟨rfl, b7⟩; replace PD := PD.below b7; replace PX := PD.box; replace x0 := PD.box.cells.1; clear b7)
        clear hHeld
        refine hK.out _ _ ?_ (fun hHeld => ?_)
        · exact ⟨PX, x0⟩
        clear hK K
        (try simp only [Act.put, List.setIfInBounds_toArray, List.set_cons_zero, List.set_cons_succ])
        refine wpAnyH_take (i := 17) (v := ?_) rfl (by kernel_rfl) (by kernel_rfl) (by kernel_rfl) (fun _ _ _ h => h) (Or.inl ⟨by kernel_rfl, ?_⟩) (by assumption) ?_
        rotate_left
        · ((intro w hSw; (try dsimp only at hSw); go_simp) <;> with_reducible rfl)
        (try simp only [Act.put, List.setIfInBounds_toArray, List.set_cons_zero, List.set_cons_succ])
        refine wpAnyH_take (i := 18) (v := ?_) rfl (by kernel_rfl) (by kernel_rfl) (by kernel_rfl) (fun _ _ _ h => h) (Or.inl ⟨by kernel_rfl, ?_⟩) (by assumption) ?_
        rotate_left
        · ((intro w hSw; (try dsimp only at hSw); go_simp) <;> with_reducible rfl)
        (try simp only [Act.put, List.setIfInBounds_toArray, List.set_cons_zero, List.set_cons_succ])
        refine wpAnyH_done (by kernel_rfl) ?_ _
        refine NoPanic.normal ?_
        clear hst PX x0 hHeld
        go_wp2
        go_roundw
        case rel => exact ⟨_, j + 1, ra, ka, rb, kb, s', by omega, by go_num, PD⟩
        case measure => simp [intOf]; omega
      have f4 : (kk % 8 == 4) = false := by simpa using e4
      clear e4
      by_cases e5 : kk % 8 = 5
      · obtain ⟨c', q⟩ : ∃ p, Hid (Nr.fuse s.c tt vv = p) := ⟨_, Lib.hid rfl⟩
        go_upto_region 34 with (first | (go_at_call 25; refine (Nor.fuse_k hP.fl.own (Lib.hid ht.2) hv.1 hv.2 q).mono ?_; rintro x w2 ⟨rfl, O2, K2⟩; have H2 := pair_chip hP O2 K2; have N2 := NA.keep K2 (fun d => nA (hP.fl.three d)); clear O2 K2; clear y0 y1 y2; obtain ⟨y0, y1, y2⟩ := N2.cells; obtain ⟨x0, x1, x2, x3, x4, x5, xf⟩ := cells_rf H2.box) | (go_at_call 26; have hx := Rnor.fuse_x H2.ref ht.2 hv q; simp only [Rnor.rv_eq] at hx; refine hx.mono ?_; rintro x w3 ⟨ra, ka, rb, kb, rfl, hp3⟩; clear hx x0 x1 x2 x3 x4 x5 xf; have B3 := H2.box.below hp3.below; obtain ⟨x0, x1, x2, x3, x4, x5, xf⟩ := cells_rf B3))
        have P := H2.laid (s' := { s with c := c' }) H2.eo hp3 (B3.setChip (c' := c')) (keep_six (Keep.refl _ w3) (.slice (some ⟨ra, 0, none⟩) c'.words.length ka) (.slice (some ⟨rb, 0, none⟩) c'.wear.length kb) (.int .i64 c'.endure) (.int .i64 c'.fuse) (.int .u32 c'.pick) (.bool c'.off))
        generalize ((((((w3.setCell ⟨N, 0, none⟩ (.slice (some ⟨ra, 0, none⟩) c'.words.length ka)).setCell ⟨N, 1, none⟩ (.slice (some ⟨rb, 0, none⟩) c'.wear.length kb)).setCell ⟨N, 2, none⟩ (.int .i64 c'.endure)).setCell ⟨N, 3, none⟩ (.int .i64 c'.fuse)).setCell ⟨N, 4, none⟩ (.int .u32 c'.pick)).setCell ⟨N, 5, none⟩ (.bool c'.off)) = w4 at *
        clear f3 f4 e5 hk ht hv x0 x1 x2 x3 x4 x5 xf B3 hp3 H2 hP
        generalize hs2 : ({ s with c := c' } : Cf.Fl) = s' at *
        have HS2 := Lib.hid hs2
        clear hs2
        clear y0 y1 y2
        have PD := P.below (Rnor.drew_below (Below.refl _ _))
        obtain ⟨st, qs⟩ : ∃ v, Hid (Cf.status s' = v) := ⟨_, Lib.hid rfl⟩
        have hst := status_y PD.fl qs
        have PX := PD.box
        have x0 := PD.box.cells.1
        have hsz : (rf s').c.words.length ≤ 4096 := by have := PD.ref.ok.size; have := PD.ref.ok.most; show s'.c.words.length ≤ 4096; omega
        refine wp_region_noPanic ?_
        refine wp_region_held_drew (S := fun W => Fbox W N ra ka rb kb (rf s') ∧ W.cell? ⟨N, 0, none⟩ = some (.slice (some ⟨ra, 0, none⟩) (rf s').c.words.length ka)) (by kernel_rfl) ?_ (fun hHeld => ?_)
        · exact ⟨PX, x0⟩
        refine wpAnyH_take (i := 0) (v := ?_) rfl (by kernel_rfl) (by kernel_rfl) (by kernel_rfl) (fun _ _ _ h => h) (Or.inl ⟨by kernel_rfl, ?_⟩) (by assumption) ?_
        rotate_left
        · ((intro w hSw; (try dsimp only at hSw); go_simp) <;> with_reducible rfl)
        (try simp only [Act.put, List.setIfInBounds_toArray, List.set_cons_zero, List.set_cons_succ])
        refine wpAnyH_take (i := 1) (v := ?_) rfl (by kernel_rfl) (by kernel_rfl) (by kernel_rfl) (fun _ _ _ h => h) (Or.inl ⟨by kernel_rfl, ?_⟩) (by assumption) ?_
        rotate_left
        · ((intro w hSw; (try dsimp only at hSw); go_simp) <;> with_reducible rfl)
        (try simp only [Act.put, List.setIfInBounds_toArray, List.set_cons_zero, List.set_cons_succ])
        refine wpAnyH_take (i := 2) (v := ?_) rfl (by kernel_rfl) (by kernel_rfl) (by kernel_rfl) (fun _ _ _ h => h) (Or.inl ⟨by kernel_rfl, ?_⟩) (by assumption) ?_
        rotate_left
        · ((intro w hSw; (try dsimp only at hSw); go_simp) <;> with_reducible rfl)
        (try simp only [Act.put, List.setIfInBounds_toArray, List.set_cons_zero, List.set_cons_succ])
        refine wpAnyH_take (i := 3) (v := ?_) rfl (by kernel_rfl) (by kernel_rfl) (by kernel_rfl) (fun _ _ _ h => h) (Or.inl ⟨by kernel_rfl, ?_⟩) (by assumption) ?_
        rotate_left
        · ((intro w hSw; (try dsimp only at hSw); go_simp) <;> with_reducible rfl)
        (try simp only [Act.put, List.setIfInBounds_toArray, List.set_cons_zero, List.set_cons_succ])
        refine wpAnyH_take (i := 4) (v := ?_) rfl (by kernel_rfl) (by kernel_rfl) (by kernel_rfl) (fun _ _ _ h => h) (Or.inl ⟨by kernel_rfl, ?_⟩) (by assumption) ?_
        rotate_left
        · ((intro w hSw; (try dsimp only at hSw); go_simp) <;> with_reducible rfl)
        (try simp only [Act.put, List.setIfInBounds_toArray, List.set_cons_zero, List.set_cons_succ])
        refine wpAnyH_take (i := 6) (v := .agg (fa ra ka rb kb (rf s'))) rfl (by kernel_rfl) (by kernel_rfl) (by kernel_rfl) (fun _ _ _ h => h) (Or.inl ⟨by kernel_rfl, fun W hSw => exec_f _ rfl rfl hSw.1⟩) (by assumption) ?_
        (try simp only [Act.put, List.setIfInBounds_toArray, List.set_cons_zero, List.set_cons_succ])
        refine wpAnyH_ready (rs := [5]) (by kernel_rfl) (by simp) ?_
        refine AllReadyH.cons rfl (fun K hK => ?_) AllReadyH.nil
        go_simp
        (go_at_call 17; refine hst.mono ?_; rintro x w5 ⟨rfl, rfl⟩)
        clear hHeld
        refine hK.out _ _ ?_ (fun hHeld => ?_)
        · exact ⟨PX, x0⟩
        clear hK K
        (try simp only [Act.put, List.setIfInBounds_toArray, List.set_cons_zero, List.set_cons_succ])
        refine wpAnyH_ready (rs := [7]) (by kernel_rfl) (by simp) ?_
        refine AllReadyH.cons rfl (fun K hK => ?_) AllReadyH.nil
        go_simp
        (go_at_call 31; refine (status_x PD.eo qs).mono ?_; rintro x w5 ⟨rfl, b5⟩; replace PD := PD.below b5; replace PX := PD.box; replace x0 := PD.box.cells.1; clear b5)
        clear hHeld
        refine hK.out _ _ ?_ (fun hHeld => ?_)
        · exact ⟨PX, x0⟩
        clear hK K
        (try simp only [Act.put, List.setIfInBounds_toArray, List.set_cons_zero, List.set_cons_succ])
        refine wpAnyH_take (i := 8) (v := ?_) rfl (by kernel_rfl) (by kernel_rfl) (by kernel_rfl) (fun _ _ _ h => h) (Or.inl ⟨by kernel_rfl, ?_⟩) (by assumption) ?_
        rotate_left
        · ((intro w hSw; (try dsimp only at hSw); go_simp) <;> with_reducible rfl)
        (try simp only [Act.put, List.setIfInBounds_toArray, List.set_cons_zero, List.set_cons_succ])
        refine wpAnyH_take (i := 9) (v := ?_) rfl (by kernel_rfl) (by kernel_rfl) (by kernel_rfl) (fun _ _ _ h => h) (Or.inl ⟨by kernel_rfl, ?_⟩) (by assumption) ?_
        rotate_left
        · ((intro w hSw; (try dsimp only at hSw); go_simp) <;> with_reducible rfl)
        (try simp only [Act.put, List.setIfInBounds_toArray, List.set_cons_zero, List.set_cons_succ])
        refine wpAnyH_take (i := 10) (v := ?_) rfl (by kernel_rfl) (by kernel_rfl) (by kernel_rfl) (fun _ _ _ h => h) (Or.inl ⟨by kernel_rfl, ?_⟩) (by assumption) ?_
        rotate_left
        · ((intro w hSw; (try dsimp only at hSw); go_simp) <;> with_reducible rfl)
        (try simp only [Act.put, List.setIfInBounds_toArray, List.set_cons_zero, List.set_cons_succ])
        refine wpAnyH_take (i := 11) (v := ?_) rfl (by kernel_rfl) (by kernel_rfl) (by kernel_rfl) (fun _ _ _ h => h) (Or.inl ⟨by kernel_rfl, ?_⟩) (by assumption) ?_
        rotate_left
        · ((intro w hSw; (try dsimp only at hSw); go_simp) <;> with_reducible rfl)
        (try simp only [Act.put, List.setIfInBounds_toArray, List.set_cons_zero, List.set_cons_succ])
        refine wpAnyH_take (i := 13) (v := ?_) rfl (by kernel_rfl) (by kernel_rfl) (by kernel_rfl) (fun _ _ _ h => h) (Or.inl ⟨by kernel_rfl, ?_⟩) (by assumption) ?_
        rotate_left
        · ((intro w hSw; (try dsimp only at hSw); go_simp) <;> with_reducible rfl)
        (try simp only [Act.put, List.setIfInBounds_toArray, List.set_cons_zero, List.set_cons_succ])
        refine wpAnyH_take (i := 14) (v := ?_) rfl (by kernel_rfl) (by kernel_rfl) (by kernel_rfl) (fun _ _ _ h => h) (Or.inl ⟨by kernel_rfl, ?_⟩) (by assumption) ?_
        rotate_left
        · ((intro w hSw; (try dsimp only at hSw); go_simp) <;> with_reducible rfl)
        (try simp only [Act.put, List.setIfInBounds_toArray, List.set_cons_zero, List.set_cons_succ])
        refine wpAnyH_take (i := 15) (v := ?_) rfl (by kernel_rfl) (by kernel_rfl) (by kernel_rfl) (fun _ _ _ h => h) (Or.inl ⟨by kernel_rfl, ?_⟩) (by assumption) ?_
        rotate_left
        · ((intro w hSw; (try dsimp only at hSw); go_simp) <;> with_reducible rfl)
        (try simp only [Act.put, List.setIfInBounds_toArray, List.set_cons_zero, List.set_cons_succ])
        refine wpAnyH_ready (rs := [12]) (by kernel_rfl) (by simp) ?_
        refine AllReadyH.cons rfl (fun K hK => ?_) AllReadyH.nil
        go_simp
        (go_at_call 19; refine (Nor.words_o PD.fl.own (zs := (rf s').c.words) (Lib.hid rfl)).mono ?_; rintro x w6 ⟨r1, k1, rfl, p1, p2, p3, p4, p5⟩; replace PD := PD.below p5; replace PX := PD.box; replace x0 := PD.box.cells.1; clear p4 p5)
        clear hHeld
        refine hK.out _ _ ?_ (fun hHeld => ?_)
        · exact ⟨PX, x0⟩
        clear hK K
        (try simp only [Act.put, List.setIfInBounds_toArray, List.set_cons_zero, List.set_cons_succ])
        refine wpAnyH_ready (rs := [16]) (by kernel_rfl) (by simp) ?_
        refine AllReadyH.cons rfl (fun K hK => ?_) AllReadyH.nil
        go_simp
        (go_at_call 20; refine (Rnor.words_same (zs := (rf s').c.words) p3 PD.ref.words hsz).mono ?_; rintro x w7 ⟨rfl, b7⟩; replace PD := PD.below b7; replace PX := PD.box; replace x0 := PD.box.cells.1; clear b7)
        clear hHeld
        refine hK.out _ _ ?_ (fun hHeld => ?_)
        · exact ⟨PX, x0⟩
        clear hK K
        (try simp only [Act.put, List.setIfInBounds_toArray, List.set_cons_zero, List.set_cons_succ])
        refine wpAnyH_take (i := 17) (v := ?_) rfl (by kernel_rfl) (by kernel_rfl) (by kernel_rfl) (fun _ _ _ h => h) (Or.inl ⟨by kernel_rfl, ?_⟩) (by assumption) ?_
        rotate_left
        · ((intro w hSw; (try dsimp only at hSw); go_simp) <;> with_reducible rfl)
        (try simp only [Act.put, List.setIfInBounds_toArray, List.set_cons_zero, List.set_cons_succ])
        refine wpAnyH_take (i := 18) (v := ?_) rfl (by kernel_rfl) (by kernel_rfl) (by kernel_rfl) (fun _ _ _ h => h) (Or.inl ⟨by kernel_rfl, ?_⟩) (by assumption) ?_
        rotate_left
        · ((intro w hSw; (try dsimp only at hSw); go_simp) <;> with_reducible rfl)
        (try simp only [Act.put, List.setIfInBounds_toArray, List.set_cons_zero, List.set_cons_succ])
        refine wpAnyH_done (by kernel_rfl) ?_ _
        refine NoPanic.normal ?_
        clear hst PX x0 hHeld
        go_wp2
        go_roundw
        case rel => exact ⟨_, j + 1, ra, ka, rb, kb, s', by omega, by go_num, PD⟩
        case measure => simp [intOf]; omega
      have f5 : (kk % 8 == 5) = false := by simpa using e5
      clear e5
      by_cases e6 : kk % 8 = 6
      · obtain ⟨c', q⟩ : ∃ p, Hid (Nr.on s.c = p) := ⟨_, Lib.hid rfl⟩
        obtain ⟨s2, q2⟩ : ∃ p, Hid (Cf.reset { s with c := c' } = p) := ⟨_, Lib.hid rfl⟩
        have e2' : Eo s2.errs := by rw [← q2.out]; exact .inl rfl
        have c2' : Hid (s2.c = c') := Lib.hid (by rw [← q2.out]; rfl)
        have eo1 := hP.eo
        go_upto_region 32 with (first | (go_at_call 27; refine (Nor.on_k hP.fl.own q).mono ?_; rintro x w2 ⟨rfl, O2, K2⟩; have H2 := pair_chip hP O2 K2; have N2 := NA.keep K2 (fun d => nA (hP.fl.three d)); clear O2 K2 y0 y1 y2) | (go_at_call 15; refine (reset_y H2.fl q2).mono ?_; rintro x w3 ⟨rfl, F3, K3⟩; have ok1 := H2.fl.ok; have H3 := half_turn H2 F3 K3; clear F3 K3; obtain ⟨x0, x1, x2, x3, x4, x5, xf⟩ := cells_rf H3.box) | (go_at_call 28; have hx := Rnor.on_x H3.ref q; simp only [Rnor.rv_eq] at hx; refine hx.mono ?_; rintro x w4 ⟨ra, ka, rb, kb, rfl, hp4⟩; clear hx x0 x1 x2 x3 x4 x5 xf; have B4 := H3.box.below hp4.below; obtain ⟨x0, x1, x2, x3, x4, x5, xf⟩ := cells_rf B4))
        have H5 := half_relay H3 (s1 := { s with c := c' }) eo1 ok1 hp4 (B4.setChip (c' := c')) (keep_six (Keep.refl _ w4) (.slice (some ⟨ra, 0, none⟩) c'.words.length ka) (.slice (some ⟨rb, 0, none⟩) c'.wear.length kb) (.int .i64 c'.endure) (.int .i64 c'.fuse) (.int .u32 c'.pick) (.bool c'.off))
        generalize ((((((w4.setCell ⟨N, 0, none⟩ (.slice (some ⟨ra, 0, none⟩) c'.words.length ka)).setCell ⟨N, 1, none⟩ (.slice (some ⟨rb, 0, none⟩) c'.wear.length kb)).setCell ⟨N, 2, none⟩ (.int .i64 c'.endure)).setCell ⟨N, 3, none⟩ (.int .i64 c'.fuse)).setCell ⟨N, 4, none⟩ (.int .u32 c'.pick)).setCell ⟨N, 5, none⟩ (.bool c'.off)) = w5 at *
        clear x0 x1 x2 x3 x4 x5 xf B4 hp4 H3 H2 hP
        go_upto_region 34 with (first | (refine load_f rfl _ rfl rfl H5.box ?_) | (go_at_call 29; refine (reset_x q2).mono ?_; rintro x w6 ⟨rfl, b6⟩; have H6 := H5.below b6) | (refine store_f rfl _ _ rfl rfl rfl H6.box (fa_size _ _ _ _ _) ?_; intro w7 hb7 hk7 hs7; clear hs7; have P := H6.laid e2' (same_post H6.ref c2'.out (Below.refl _ _)) hb7 hk7))
        clear f3 f4 f5 e6 hk ht hv
        have y0 := True.intro
        have y1 := True.intro
        have y2 := True.intro
        clear y0 y1 y2
        have PD := P.below (Rnor.drew_below (Below.refl _ _))
        obtain ⟨st, qs⟩ : ∃ v, Hid (Cf.status s2 = v) := ⟨_, Lib.hid rfl⟩
        have hst := status_y PD.fl qs
        have PX := PD.box
        have x0 := PD.box.cells.1
        have hsz : (rf s2).c.words.length ≤ 4096 := by have := PD.ref.ok.size; have := PD.ref.ok.most; show s2.c.words.length ≤ 4096; omega
        refine wp_region_noPanic ?_
        refine wp_region_held_drew (S := fun W => Fbox W N ra ka rb kb (rf s2) ∧ W.cell? ⟨N, 0, none⟩ = some (.slice (some ⟨ra, 0, none⟩) (rf s2).c.words.length ka)) (by kernel_rfl) ?_ (fun hHeld => ?_)
        · exact ⟨PX, x0⟩
        refine wpAnyH_take (i := 0) (v := ?_) rfl (by kernel_rfl) (by kernel_rfl) (by kernel_rfl) (fun _ _ _ h => h) (Or.inl ⟨by kernel_rfl, ?_⟩) (by assumption) ?_
        rotate_left
        · ((intro w hSw; (try dsimp only at hSw); go_simp) <;> with_reducible rfl)
        (try simp only [Act.put, List.setIfInBounds_toArray, List.set_cons_zero, List.set_cons_succ])
        refine wpAnyH_take (i := 1) (v := ?_) rfl (by kernel_rfl) (by kernel_rfl) (by kernel_rfl) (fun _ _ _ h => h) (Or.inl ⟨by kernel_rfl, ?_⟩) (by assumption) ?_
        rotate_left
        · ((intro w hSw; (try dsimp only at hSw); go_simp) <;> with_reducible rfl)
        (try simp only [Act.put, List.setIfInBounds_toArray, List.set_cons_zero, List.set_cons_succ])
        refine wpAnyH_take (i := 2) (v := ?_) rfl (by kernel_rfl) (by kernel_rfl) (by kernel_rfl) (fun _ _ _ h => h) (Or.inl ⟨by kernel_rfl, ?_⟩) (by assumption) ?_
        rotate_left
        · ((intro w hSw; (try dsimp only at hSw); go_simp) <;> with_reducible rfl)
        (try simp only [Act.put, List.setIfInBounds_toArray, List.set_cons_zero, List.set_cons_succ])
        refine wpAnyH_take (i := 3) (v := ?_) rfl (by kernel_rfl) (by kernel_rfl) (by kernel_rfl) (fun _ _ _ h => h) (Or.inl ⟨by kernel_rfl, ?_⟩) (by assumption) ?_
        rotate_left
        · ((intro w hSw; (try dsimp only at hSw); go_simp) <;> with_reducible rfl)
        (try simp only [Act.put, List.setIfInBounds_toArray, List.set_cons_zero, List.set_cons_succ])
        refine wpAnyH_take (i := 4) (v := ?_) rfl (by kernel_rfl) (by kernel_rfl) (by kernel_rfl) (fun _ _ _ h => h) (Or.inl ⟨by kernel_rfl, ?_⟩) (by assumption) ?_
        rotate_left
        · ((intro w hSw; (try dsimp only at hSw); go_simp) <;> with_reducible rfl)
        (try simp only [Act.put, List.setIfInBounds_toArray, List.set_cons_zero, List.set_cons_succ])
        refine wpAnyH_take (i := 6) (v := .agg (fa ra ka rb kb (rf s2))) rfl (by kernel_rfl) (by kernel_rfl) (by kernel_rfl) (fun _ _ _ h => h) (Or.inl ⟨by kernel_rfl, fun W hSw => exec_f _ rfl rfl hSw.1⟩) (by assumption) ?_
        (try simp only [Act.put, List.setIfInBounds_toArray, List.set_cons_zero, List.set_cons_succ])
        refine wpAnyH_ready (rs := [5]) (by kernel_rfl) (by simp) ?_
        refine AllReadyH.cons rfl (fun K hK => ?_) AllReadyH.nil
        go_simp
        (go_at_call 17; refine hst.mono ?_; rintro x w5 ⟨rfl, rfl⟩)
        clear hHeld
        refine hK.out _ _ ?_ (fun hHeld => ?_)
        · exact ⟨PX, x0⟩
        clear hK K
        (try simp only [Act.put, List.setIfInBounds_toArray, List.set_cons_zero, List.set_cons_succ])
        refine wpAnyH_ready (rs := [7]) (by kernel_rfl) (by simp) ?_
        refine AllReadyH.cons rfl (fun K hK => ?_) AllReadyH.nil
        go_simp
        (go_at_call 31; refine (status_x PD.eo qs).mono ?_; rintro x w5 ⟨rfl, b5⟩; replace PD := PD.below b5; replace PX := PD.box; replace x0 := PD.box.cells.1; clear b5)
        clear hHeld
        refine hK.out _ _ ?_ (fun hHeld => ?_)
        · exact ⟨PX, x0⟩
        clear hK K
        (try simp only [Act.put, List.setIfInBounds_toArray, List.set_cons_zero, List.set_cons_succ])
        refine wpAnyH_take (i := 8) (v := ?_) rfl (by kernel_rfl) (by kernel_rfl) (by kernel_rfl) (fun _ _ _ h => h) (Or.inl ⟨by kernel_rfl, ?_⟩) (by assumption) ?_
        rotate_left
        · ((intro w hSw; (try dsimp only at hSw); go_simp) <;> with_reducible rfl)
        (try simp only [Act.put, List.setIfInBounds_toArray, List.set_cons_zero, List.set_cons_succ])
        refine wpAnyH_take (i := 9) (v := ?_) rfl (by kernel_rfl) (by kernel_rfl) (by kernel_rfl) (fun _ _ _ h => h) (Or.inl ⟨by kernel_rfl, ?_⟩) (by assumption) ?_
        rotate_left
        · ((intro w hSw; (try dsimp only at hSw); go_simp) <;> with_reducible rfl)
        (try simp only [Act.put, List.setIfInBounds_toArray, List.set_cons_zero, List.set_cons_succ])
        refine wpAnyH_take (i := 10) (v := ?_) rfl (by kernel_rfl) (by kernel_rfl) (by kernel_rfl) (fun _ _ _ h => h) (Or.inl ⟨by kernel_rfl, ?_⟩) (by assumption) ?_
        rotate_left
        · ((intro w hSw; (try dsimp only at hSw); go_simp) <;> with_reducible rfl)
        (try simp only [Act.put, List.setIfInBounds_toArray, List.set_cons_zero, List.set_cons_succ])
        refine wpAnyH_take (i := 11) (v := ?_) rfl (by kernel_rfl) (by kernel_rfl) (by kernel_rfl) (fun _ _ _ h => h) (Or.inl ⟨by kernel_rfl, ?_⟩) (by assumption) ?_
        rotate_left
        · ((intro w hSw; (try dsimp only at hSw); go_simp) <;> with_reducible rfl)
        (try simp only [Act.put, List.setIfInBounds_toArray, List.set_cons_zero, List.set_cons_succ])
        refine wpAnyH_take (i := 13) (v := ?_) rfl (by kernel_rfl) (by kernel_rfl) (by kernel_rfl) (fun _ _ _ h => h) (Or.inl ⟨by kernel_rfl, ?_⟩) (by assumption) ?_
        rotate_left
        · ((intro w hSw; (try dsimp only at hSw); go_simp) <;> with_reducible rfl)
        (try simp only [Act.put, List.setIfInBounds_toArray, List.set_cons_zero, List.set_cons_succ])
        refine wpAnyH_take (i := 14) (v := ?_) rfl (by kernel_rfl) (by kernel_rfl) (by kernel_rfl) (fun _ _ _ h => h) (Or.inl ⟨by kernel_rfl, ?_⟩) (by assumption) ?_
        rotate_left
        · ((intro w hSw; (try dsimp only at hSw); go_simp) <;> with_reducible rfl)
        (try simp only [Act.put, List.setIfInBounds_toArray, List.set_cons_zero, List.set_cons_succ])
        refine wpAnyH_take (i := 15) (v := ?_) rfl (by kernel_rfl) (by kernel_rfl) (by kernel_rfl) (fun _ _ _ h => h) (Or.inl ⟨by kernel_rfl, ?_⟩) (by assumption) ?_
        rotate_left
        · ((intro w hSw; (try dsimp only at hSw); go_simp) <;> with_reducible rfl)
        (try simp only [Act.put, List.setIfInBounds_toArray, List.set_cons_zero, List.set_cons_succ])
        refine wpAnyH_ready (rs := [12]) (by kernel_rfl) (by simp) ?_
        refine AllReadyH.cons rfl (fun K hK => ?_) AllReadyH.nil
        go_simp
        (go_at_call 19; refine (Nor.words_o PD.fl.own (zs := (rf s2).c.words) (Lib.hid rfl)).mono ?_; rintro x w6 ⟨r1, k1, rfl, p1, p2, p3, p4, p5⟩; replace PD := PD.below p5; replace PX := PD.box; replace x0 := PD.box.cells.1; clear p4 p5)
        clear hHeld
        refine hK.out _ _ ?_ (fun hHeld => ?_)
        · exact ⟨PX, x0⟩
        clear hK K
        (try simp only [Act.put, List.setIfInBounds_toArray, List.set_cons_zero, List.set_cons_succ])
        refine wpAnyH_ready (rs := [16]) (by kernel_rfl) (by simp) ?_
        refine AllReadyH.cons rfl (fun K hK => ?_) AllReadyH.nil
        go_simp
        (go_at_call 20; refine (Rnor.words_same (zs := (rf s2).c.words) p3 PD.ref.words hsz).mono ?_; rintro x w7 ⟨rfl, b7⟩; replace PD := PD.below b7; replace PX := PD.box; replace x0 := PD.box.cells.1; clear b7)
        clear hHeld
        refine hK.out _ _ ?_ (fun hHeld => ?_)
        · exact ⟨PX, x0⟩
        clear hK K
        (try simp only [Act.put, List.setIfInBounds_toArray, List.set_cons_zero, List.set_cons_succ])
        refine wpAnyH_take (i := 17) (v := ?_) rfl (by kernel_rfl) (by kernel_rfl) (by kernel_rfl) (fun _ _ _ h => h) (Or.inl ⟨by kernel_rfl, ?_⟩) (by assumption) ?_
        rotate_left
        · ((intro w hSw; (try dsimp only at hSw); go_simp) <;> with_reducible rfl)
        (try simp only [Act.put, List.setIfInBounds_toArray, List.set_cons_zero, List.set_cons_succ])
        refine wpAnyH_take (i := 18) (v := ?_) rfl (by kernel_rfl) (by kernel_rfl) (by kernel_rfl) (fun _ _ _ h => h) (Or.inl ⟨by kernel_rfl, ?_⟩) (by assumption) ?_
        rotate_left
        · ((intro w hSw; (try dsimp only at hSw); go_simp) <;> with_reducible rfl)
        (try simp only [Act.put, List.setIfInBounds_toArray, List.set_cons_zero, List.set_cons_succ])
        refine wpAnyH_done (by kernel_rfl) ?_ _
        refine NoPanic.normal ?_
        clear hst PX x0 hHeld
        go_wp2
        go_roundw
        case rel => exact ⟨_, j + 1, ra, ka, rb, kb, s2, by omega, by go_num, PD⟩
        case measure => simp [intOf]; omega
      have f6 : (kk % 8 == 6) = false := by simpa using e6
      clear e6
      by_cases e7 : kk % 8 = 7
      · go_upto_region 34 with (fail)
        have P := hP
        clear f3 f4 f5 f6 e7 hk ht hv
        clear y0 y1 y2
        have PD := P.below (Rnor.drew_below (Below.refl _ _))
        obtain ⟨st, qs⟩ : ∃ v, Hid (Cf.status s = v) := ⟨_, Lib.hid rfl⟩
        have hst := status_y PD.fl qs
        have PX := PD.box
        have x0 := PD.box.cells.1
        have hsz : (rf s).c.words.length ≤ 4096 := by have := PD.ref.ok.size; have := PD.ref.ok.most; show s.c.words.length ≤ 4096; omega
        refine wp_region_noPanic ?_
        refine wp_region_held_drew (S := fun W => Fbox W N rw_ rkw re rke (rf s) ∧ W.cell? ⟨N, 0, none⟩ = some (.slice (some ⟨rw_, 0, none⟩) (rf s).c.words.length rkw)) (by kernel_rfl) ?_ (fun hHeld => ?_)
        · exact ⟨PX, x0⟩
        refine wpAnyH_take (i := 0) (v := ?_) rfl (by kernel_rfl) (by kernel_rfl) (by kernel_rfl) (fun _ _ _ h => h) (Or.inl ⟨by kernel_rfl, ?_⟩) (by assumption) ?_
        rotate_left
        · ((intro w hSw; (try dsimp only at hSw); go_simp) <;> with_reducible rfl)
        (try simp only [Act.put, List.setIfInBounds_toArray, List.set_cons_zero, List.set_cons_succ])
        refine wpAnyH_take (i := 1) (v := ?_) rfl (by kernel_rfl) (by kernel_rfl) (by kernel_rfl) (fun _ _ _ h => h) (Or.inl ⟨by kernel_rfl, ?_⟩) (by assumption) ?_
        rotate_left
        · ((intro w hSw; (try dsimp only at hSw); go_simp) <;> with_reducible rfl)
        (try simp only [Act.put, List.setIfInBounds_toArray, List.set_cons_zero, List.set_cons_succ])
        refine wpAnyH_take (i := 2) (v := ?_) rfl (by kernel_rfl) (by kernel_rfl) (by kernel_rfl) (fun _ _ _ h => h) (Or.inl ⟨by kernel_rfl, ?_⟩) (by assumption) ?_
        rotate_left
        · ((intro w hSw; (try dsimp only at hSw); go_simp) <;> with_reducible rfl)
        (try simp only [Act.put, List.setIfInBounds_toArray, List.set_cons_zero, List.set_cons_succ])
        refine wpAnyH_take (i := 3) (v := ?_) rfl (by kernel_rfl) (by kernel_rfl) (by kernel_rfl) (fun _ _ _ h => h) (Or.inl ⟨by kernel_rfl, ?_⟩) (by assumption) ?_
        rotate_left
        · ((intro w hSw; (try dsimp only at hSw); go_simp) <;> with_reducible rfl)
        (try simp only [Act.put, List.setIfInBounds_toArray, List.set_cons_zero, List.set_cons_succ])
        refine wpAnyH_take (i := 4) (v := ?_) rfl (by kernel_rfl) (by kernel_rfl) (by kernel_rfl) (fun _ _ _ h => h) (Or.inl ⟨by kernel_rfl, ?_⟩) (by assumption) ?_
        rotate_left
        · ((intro w hSw; (try dsimp only at hSw); go_simp) <;> with_reducible rfl)
        (try simp only [Act.put, List.setIfInBounds_toArray, List.set_cons_zero, List.set_cons_succ])
        refine wpAnyH_take (i := 6) (v := .agg (fa rw_ rkw re rke (rf s))) rfl (by kernel_rfl) (by kernel_rfl) (by kernel_rfl) (fun _ _ _ h => h) (Or.inl ⟨by kernel_rfl, fun W hSw => exec_f _ rfl rfl hSw.1⟩) (by assumption) ?_
        (try simp only [Act.put, List.setIfInBounds_toArray, List.set_cons_zero, List.set_cons_succ])
        refine wpAnyH_ready (rs := [5]) (by kernel_rfl) (by simp) ?_
        refine AllReadyH.cons rfl (fun K hK => ?_) AllReadyH.nil
        go_simp
        (go_at_call 17; refine hst.mono ?_; rintro x w5 ⟨rfl, rfl⟩)
        clear hHeld
        refine hK.out _ _ ?_ (fun hHeld => ?_)
        · exact ⟨PX, x0⟩
        clear hK K
        (try simp only [Act.put, List.setIfInBounds_toArray, List.set_cons_zero, List.set_cons_succ])
        refine wpAnyH_ready (rs := [7]) (by kernel_rfl) (by simp) ?_
        refine AllReadyH.cons rfl (fun K hK => ?_) AllReadyH.nil
        go_simp
        (go_at_call 31; refine (status_x PD.eo qs).mono ?_; rintro x w5 ⟨rfl, b5⟩; replace PD := PD.below b5; replace PX := PD.box; replace x0 := PD.box.cells.1; clear b5)
        clear hHeld
        refine hK.out _ _ ?_ (fun hHeld => ?_)
        · exact ⟨PX, x0⟩
        clear hK K
        (try simp only [Act.put, List.setIfInBounds_toArray, List.set_cons_zero, List.set_cons_succ])
        refine wpAnyH_take (i := 8) (v := ?_) rfl (by kernel_rfl) (by kernel_rfl) (by kernel_rfl) (fun _ _ _ h => h) (Or.inl ⟨by kernel_rfl, ?_⟩) (by assumption) ?_
        rotate_left
        · ((intro w hSw; (try dsimp only at hSw); go_simp) <;> with_reducible rfl)
        (try simp only [Act.put, List.setIfInBounds_toArray, List.set_cons_zero, List.set_cons_succ])
        refine wpAnyH_take (i := 9) (v := ?_) rfl (by kernel_rfl) (by kernel_rfl) (by kernel_rfl) (fun _ _ _ h => h) (Or.inl ⟨by kernel_rfl, ?_⟩) (by assumption) ?_
        rotate_left
        · ((intro w hSw; (try dsimp only at hSw); go_simp) <;> with_reducible rfl)
        (try simp only [Act.put, List.setIfInBounds_toArray, List.set_cons_zero, List.set_cons_succ])
        refine wpAnyH_take (i := 10) (v := ?_) rfl (by kernel_rfl) (by kernel_rfl) (by kernel_rfl) (fun _ _ _ h => h) (Or.inl ⟨by kernel_rfl, ?_⟩) (by assumption) ?_
        rotate_left
        · ((intro w hSw; (try dsimp only at hSw); go_simp) <;> with_reducible rfl)
        (try simp only [Act.put, List.setIfInBounds_toArray, List.set_cons_zero, List.set_cons_succ])
        refine wpAnyH_take (i := 11) (v := ?_) rfl (by kernel_rfl) (by kernel_rfl) (by kernel_rfl) (fun _ _ _ h => h) (Or.inl ⟨by kernel_rfl, ?_⟩) (by assumption) ?_
        rotate_left
        · ((intro w hSw; (try dsimp only at hSw); go_simp) <;> with_reducible rfl)
        (try simp only [Act.put, List.setIfInBounds_toArray, List.set_cons_zero, List.set_cons_succ])
        refine wpAnyH_take (i := 13) (v := ?_) rfl (by kernel_rfl) (by kernel_rfl) (by kernel_rfl) (fun _ _ _ h => h) (Or.inl ⟨by kernel_rfl, ?_⟩) (by assumption) ?_
        rotate_left
        · ((intro w hSw; (try dsimp only at hSw); go_simp) <;> with_reducible rfl)
        (try simp only [Act.put, List.setIfInBounds_toArray, List.set_cons_zero, List.set_cons_succ])
        refine wpAnyH_take (i := 14) (v := ?_) rfl (by kernel_rfl) (by kernel_rfl) (by kernel_rfl) (fun _ _ _ h => h) (Or.inl ⟨by kernel_rfl, ?_⟩) (by assumption) ?_
        rotate_left
        · ((intro w hSw; (try dsimp only at hSw); go_simp) <;> with_reducible rfl)
        (try simp only [Act.put, List.setIfInBounds_toArray, List.set_cons_zero, List.set_cons_succ])
        refine wpAnyH_take (i := 15) (v := ?_) rfl (by kernel_rfl) (by kernel_rfl) (by kernel_rfl) (fun _ _ _ h => h) (Or.inl ⟨by kernel_rfl, ?_⟩) (by assumption) ?_
        rotate_left
        · ((intro w hSw; (try dsimp only at hSw); go_simp) <;> with_reducible rfl)
        (try simp only [Act.put, List.setIfInBounds_toArray, List.set_cons_zero, List.set_cons_succ])
        refine wpAnyH_ready (rs := [12]) (by kernel_rfl) (by simp) ?_
        refine AllReadyH.cons rfl (fun K hK => ?_) AllReadyH.nil
        go_simp
        (go_at_call 19; refine (Nor.words_o PD.fl.own (zs := (rf s).c.words) (Lib.hid rfl)).mono ?_; rintro x w6 ⟨r1, k1, rfl, p1, p2, p3, p4, p5⟩; replace PD := PD.below p5; replace PX := PD.box; replace x0 := PD.box.cells.1; clear p4 p5)
        clear hHeld
        refine hK.out _ _ ?_ (fun hHeld => ?_)
        · exact ⟨PX, x0⟩
        clear hK K
        (try simp only [Act.put, List.setIfInBounds_toArray, List.set_cons_zero, List.set_cons_succ])
        refine wpAnyH_ready (rs := [16]) (by kernel_rfl) (by simp) ?_
        refine AllReadyH.cons rfl (fun K hK => ?_) AllReadyH.nil
        go_simp
        (go_at_call 20; refine (Rnor.words_same (zs := (rf s).c.words) p3 PD.ref.words hsz).mono ?_; rintro x w7 ⟨rfl, b7⟩; replace PD := PD.below b7; replace PX := PD.box; replace x0 := PD.box.cells.1; clear b7)
        clear hHeld
        refine hK.out _ _ ?_ (fun hHeld => ?_)
        · exact ⟨PX, x0⟩
        clear hK K
        (try simp only [Act.put, List.setIfInBounds_toArray, List.set_cons_zero, List.set_cons_succ])
        refine wpAnyH_take (i := 17) (v := ?_) rfl (by kernel_rfl) (by kernel_rfl) (by kernel_rfl) (fun _ _ _ h => h) (Or.inl ⟨by kernel_rfl, ?_⟩) (by assumption) ?_
        rotate_left
        · ((intro w hSw; (try dsimp only at hSw); go_simp) <;> with_reducible rfl)
        (try simp only [Act.put, List.setIfInBounds_toArray, List.set_cons_zero, List.set_cons_succ])
        refine wpAnyH_take (i := 18) (v := ?_) rfl (by kernel_rfl) (by kernel_rfl) (by kernel_rfl) (fun _ _ _ h => h) (Or.inl ⟨by kernel_rfl, ?_⟩) (by assumption) ?_
        rotate_left
        · ((intro w hSw; (try dsimp only at hSw); go_simp) <;> with_reducible rfl)
        (try simp only [Act.put, List.setIfInBounds_toArray, List.set_cons_zero, List.set_cons_succ])
        refine wpAnyH_done (by kernel_rfl) ?_ _
        refine NoPanic.normal ?_
        clear hst PX x0 hHeld
        go_wp2
        go_roundw
        case rel => exact ⟨_, j + 1, rw_, rkw, re, rke, s, by omega, by go_num, PD⟩
        case measure => simp [intOf]; omega
      have f7 : (kk % 8 == 7) = false := by simpa using e7
      clear e7
      obtain ⟨⟨e, s'⟩, q⟩ : ∃ p, Hid (Cf.write s tt vv = p) := ⟨_, Lib.hid rfl⟩
      have eo' : Eo s'.errs := by have := write_eo hP.eo tt vv; rw [q.out] at this; exact this
      have CC : Hid (s'.c = s.c) := Lib.hid (by have := Rfl.write_c s tt vv; rw [q.out] at this; exact this)
      go_upto_region 34 with (first | (go_at_call 14; refine (write_y hP.fl hv.1 hv.2 q).mono ?_; rintro x w2 ⟨rfl, F2, K2⟩; have H2 := hP.turn F2 K2; have N2 := NA.keep K2 nA; clear F2 K2 hP y0 y1 y2; obtain ⟨y0, y1, y2⟩ := N2.cells) | (refine load_f rfl _ rfl rfl H2.box ?_) | (go_at_call 30; refine (write_x H2.ref.ok H2.ok H2.eo hv q).mono ?_; rintro x w3 ⟨rfl, b3⟩; have H3 := H2.below b3) | (refine store_f rfl _ _ rfl rfl rfl H3.box (fa_size _ _ _ _ _) ?_; intro w4 hb4 hk4 hs4; clear hs4; have P := H3.laid eo' (same_post H3.ref CC.out (Below.refl _ _)) hb4 hk4))
      clear f3 f4 f5 f6 f7 hk ht hv
      clear y0 y1 y2
      have PD := P.below (Rnor.drew_below (Below.refl _ _))
      obtain ⟨st, qs⟩ : ∃ v, Hid (Cf.status s' = v) := ⟨_, Lib.hid rfl⟩
      have hst := status_y PD.fl qs
      have PX := PD.box
      have x0 := PD.box.cells.1
      have hsz : (rf s').c.words.length ≤ 4096 := by have := PD.ref.ok.size; have := PD.ref.ok.most; show s'.c.words.length ≤ 4096; omega
      refine wp_region_noPanic ?_
      refine wp_region_held_drew (S := fun W => Fbox W N rw_ rkw re rke (rf s') ∧ W.cell? ⟨N, 0, none⟩ = some (.slice (some ⟨rw_, 0, none⟩) (rf s').c.words.length rkw)) (by kernel_rfl) ?_ (fun hHeld => ?_)
      · exact ⟨PX, x0⟩
      refine wpAnyH_take (i := 0) (v := ?_) rfl (by kernel_rfl) (by kernel_rfl) (by kernel_rfl) (fun _ _ _ h => h) (Or.inl ⟨by kernel_rfl, ?_⟩) (by assumption) ?_
      rotate_left
      · ((intro w hSw; (try dsimp only at hSw); go_simp) <;> with_reducible rfl)
      (try simp only [Act.put, List.setIfInBounds_toArray, List.set_cons_zero, List.set_cons_succ])
      refine wpAnyH_take (i := 1) (v := ?_) rfl (by kernel_rfl) (by kernel_rfl) (by kernel_rfl) (fun _ _ _ h => h) (Or.inl ⟨by kernel_rfl, ?_⟩) (by assumption) ?_
      rotate_left
      · ((intro w hSw; (try dsimp only at hSw); go_simp) <;> with_reducible rfl)
      (try simp only [Act.put, List.setIfInBounds_toArray, List.set_cons_zero, List.set_cons_succ])
      refine wpAnyH_take (i := 2) (v := ?_) rfl (by kernel_rfl) (by kernel_rfl) (by kernel_rfl) (fun _ _ _ h => h) (Or.inl ⟨by kernel_rfl, ?_⟩) (by assumption) ?_
      rotate_left
      · ((intro w hSw; (try dsimp only at hSw); go_simp) <;> with_reducible rfl)
      (try simp only [Act.put, List.setIfInBounds_toArray, List.set_cons_zero, List.set_cons_succ])
      refine wpAnyH_take (i := 3) (v := ?_) rfl (by kernel_rfl) (by kernel_rfl) (by kernel_rfl) (fun _ _ _ h => h) (Or.inl ⟨by kernel_rfl, ?_⟩) (by assumption) ?_
      rotate_left
      · ((intro w hSw; (try dsimp only at hSw); go_simp) <;> with_reducible rfl)
      (try simp only [Act.put, List.setIfInBounds_toArray, List.set_cons_zero, List.set_cons_succ])
      refine wpAnyH_take (i := 4) (v := ?_) rfl (by kernel_rfl) (by kernel_rfl) (by kernel_rfl) (fun _ _ _ h => h) (Or.inl ⟨by kernel_rfl, ?_⟩) (by assumption) ?_
      rotate_left
      · ((intro w hSw; (try dsimp only at hSw); go_simp) <;> with_reducible rfl)
      (try simp only [Act.put, List.setIfInBounds_toArray, List.set_cons_zero, List.set_cons_succ])
      refine wpAnyH_take (i := 6) (v := .agg (fa rw_ rkw re rke (rf s'))) rfl (by kernel_rfl) (by kernel_rfl) (by kernel_rfl) (fun _ _ _ h => h) (Or.inl ⟨by kernel_rfl, fun W hSw => exec_f _ rfl rfl hSw.1⟩) (by assumption) ?_
      (try simp only [Act.put, List.setIfInBounds_toArray, List.set_cons_zero, List.set_cons_succ])
      refine wpAnyH_ready (rs := [5]) (by kernel_rfl) (by simp) ?_
      refine AllReadyH.cons rfl (fun K hK => ?_) AllReadyH.nil
      go_simp
      (go_at_call 17; refine hst.mono ?_; rintro x w5 ⟨rfl, rfl⟩)
      clear hHeld
      refine hK.out _ _ ?_ (fun hHeld => ?_)
      · exact ⟨PX, x0⟩
      clear hK K
      (try simp only [Act.put, List.setIfInBounds_toArray, List.set_cons_zero, List.set_cons_succ])
      refine wpAnyH_ready (rs := [7]) (by kernel_rfl) (by simp) ?_
      refine AllReadyH.cons rfl (fun K hK => ?_) AllReadyH.nil
      go_simp
      (go_at_call 31; refine (status_x PD.eo qs).mono ?_; rintro x w5 ⟨rfl, b5⟩; replace PD := PD.below b5; replace PX := PD.box; replace x0 := PD.box.cells.1; clear b5)
      clear hHeld
      refine hK.out _ _ ?_ (fun hHeld => ?_)
      · exact ⟨PX, x0⟩
      clear hK K
      (try simp only [Act.put, List.setIfInBounds_toArray, List.set_cons_zero, List.set_cons_succ])
      refine wpAnyH_take (i := 8) (v := ?_) rfl (by kernel_rfl) (by kernel_rfl) (by kernel_rfl) (fun _ _ _ h => h) (Or.inl ⟨by kernel_rfl, ?_⟩) (by assumption) ?_
      rotate_left
      · ((intro w hSw; (try dsimp only at hSw); go_simp) <;> with_reducible rfl)
      (try simp only [Act.put, List.setIfInBounds_toArray, List.set_cons_zero, List.set_cons_succ])
      refine wpAnyH_take (i := 9) (v := ?_) rfl (by kernel_rfl) (by kernel_rfl) (by kernel_rfl) (fun _ _ _ h => h) (Or.inl ⟨by kernel_rfl, ?_⟩) (by assumption) ?_
      rotate_left
      · ((intro w hSw; (try dsimp only at hSw); go_simp) <;> with_reducible rfl)
      (try simp only [Act.put, List.setIfInBounds_toArray, List.set_cons_zero, List.set_cons_succ])
      refine wpAnyH_take (i := 10) (v := ?_) rfl (by kernel_rfl) (by kernel_rfl) (by kernel_rfl) (fun _ _ _ h => h) (Or.inl ⟨by kernel_rfl, ?_⟩) (by assumption) ?_
      rotate_left
      · ((intro w hSw; (try dsimp only at hSw); go_simp) <;> with_reducible rfl)
      (try simp only [Act.put, List.setIfInBounds_toArray, List.set_cons_zero, List.set_cons_succ])
      refine wpAnyH_take (i := 11) (v := ?_) rfl (by kernel_rfl) (by kernel_rfl) (by kernel_rfl) (fun _ _ _ h => h) (Or.inl ⟨by kernel_rfl, ?_⟩) (by assumption) ?_
      rotate_left
      · ((intro w hSw; (try dsimp only at hSw); go_simp) <;> with_reducible rfl)
      (try simp only [Act.put, List.setIfInBounds_toArray, List.set_cons_zero, List.set_cons_succ])
      refine wpAnyH_take (i := 13) (v := ?_) rfl (by kernel_rfl) (by kernel_rfl) (by kernel_rfl) (fun _ _ _ h => h) (Or.inl ⟨by kernel_rfl, ?_⟩) (by assumption) ?_
      rotate_left
      · ((intro w hSw; (try dsimp only at hSw); go_simp) <;> with_reducible rfl)
      (try simp only [Act.put, List.setIfInBounds_toArray, List.set_cons_zero, List.set_cons_succ])
      refine wpAnyH_take (i := 14) (v := ?_) rfl (by kernel_rfl) (by kernel_rfl) (by kernel_rfl) (fun _ _ _ h => h) (Or.inl ⟨by kernel_rfl, ?_⟩) (by assumption) ?_
      rotate_left
      · ((intro w hSw; (try dsimp only at hSw); go_simp) <;> with_reducible rfl)
      (try simp only [Act.put, List.setIfInBounds_toArray, List.set_cons_zero, List.set_cons_succ])
      refine wpAnyH_take (i := 15) (v := ?_) rfl (by kernel_rfl) (by kernel_rfl) (by kernel_rfl) (fun _ _ _ h => h) (Or.inl ⟨by kernel_rfl, ?_⟩) (by assumption) ?_
      rotate_left
      · ((intro w hSw; (try dsimp only at hSw); go_simp) <;> with_reducible rfl)
      (try simp only [Act.put, List.setIfInBounds_toArray, List.set_cons_zero, List.set_cons_succ])
      refine wpAnyH_ready (rs := [12]) (by kernel_rfl) (by simp) ?_
      refine AllReadyH.cons rfl (fun K hK => ?_) AllReadyH.nil
      go_simp
      (go_at_call 19; refine (Nor.words_o PD.fl.own (zs := (rf s').c.words) (Lib.hid rfl)).mono ?_; rintro x w6 ⟨r1, k1, rfl, p1, p2, p3, p4, p5⟩; replace PD := PD.below p5; replace PX := PD.box; replace x0 := PD.box.cells.1; clear p4 p5)
      clear hHeld
      refine hK.out _ _ ?_ (fun hHeld => ?_)
      · exact ⟨PX, x0⟩
      clear hK K
      (try simp only [Act.put, List.setIfInBounds_toArray, List.set_cons_zero, List.set_cons_succ])
      refine wpAnyH_ready (rs := [16]) (by kernel_rfl) (by simp) ?_
      refine AllReadyH.cons rfl (fun K hK => ?_) AllReadyH.nil
      go_simp
      (go_at_call 20; refine (Rnor.words_same (zs := (rf s').c.words) p3 PD.ref.words hsz).mono ?_; rintro x w7 ⟨rfl, b7⟩; replace PD := PD.below b7; replace PX := PD.box; replace x0 := PD.box.cells.1; clear b7)
      clear hHeld
      refine hK.out _ _ ?_ (fun hHeld => ?_)
      · exact ⟨PX, x0⟩
      clear hK K
      (try simp only [Act.put, List.setIfInBounds_toArray, List.set_cons_zero, List.set_cons_succ])
      refine wpAnyH_take (i := 17) (v := ?_) rfl (by kernel_rfl) (by kernel_rfl) (by kernel_rfl) (fun _ _ _ h => h) (Or.inl ⟨by kernel_rfl, ?_⟩) (by assumption) ?_
      rotate_left
      · ((intro w hSw; (try dsimp only at hSw); go_simp) <;> with_reducible rfl)
      (try simp only [Act.put, List.setIfInBounds_toArray, List.set_cons_zero, List.set_cons_succ])
      refine wpAnyH_take (i := 18) (v := ?_) rfl (by kernel_rfl) (by kernel_rfl) (by kernel_rfl) (fun _ _ _ h => h) (Or.inl ⟨by kernel_rfl, ?_⟩) (by assumption) ?_
      rotate_left
      · ((intro w hSw; (try dsimp only at hSw); go_simp) <;> with_reducible rfl)
      (try simp only [Act.put, List.setIfInBounds_toArray, List.set_cons_zero, List.set_cons_succ])
      refine wpAnyH_done (by kernel_rfl) ?_ _
      refine NoPanic.normal ?_
      clear hst PX x0 hHeld
      go_wp2
      go_roundw
      case rel => exact ⟨_, j + 1, rw_, rkw, re, rke, s', by omega, by go_num, PD⟩
      case measure => simp [intOf]; omega
end L03Acts
end Go.Proofs.Ytcpcnkmhhmccdaa
