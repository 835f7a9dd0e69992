/- The parts: Rdw4 Rdw5 Rdw6 Rdw7 Rdw8. -/
import Derived.Test.YtfghlfolejpjjaaRF
import Derived.Test.YtfghlfolejpjjaaDB
/- The reference's driver: wait. -/
namespace Go.Proofs.Ytfghlfolejpjjaa
open Go.RowKit
set_option linter.unusedVariables false
set_option linter.unusedSimpArgs false
attribute [local go_sem] max2_int min2_int max_two min_two
namespace Rdl
open Rfl Rcfi Rnor
theorem _root_.Go.Proofs.Ytfghlfolejpjjaa.Rnor.RPost.then {w W W' : World} {bw be a ka b kb : Nat} {c : Nr.C} (h : RPost w W bw be a ka b kb c) (B : Below W.heap.size W W') : RPost w W' bw be a ka b kb c :=
  ⟨h.at_.below B, h.la, h.lb, Below.then h.below B⟩
theorem _root_.Go.Proofs.Ytfghlfolejpjjaa.Rnor.RPost.chain {w W W' : World} {bw be a ka b kb a' ka' b' kb' : Nat} {c c' : Nr.C} (h : RPost w W bw be a ka b kb c) (h2 : RPost W W' a b a' ka' b' kb' c') : RPost w W' bw be a' ka' b' kb' c' := by
  have := h.below.size
  refine ⟨h2.at_, ?_, ?_, Below.then h.below h2.below⟩
  · rcases h2.la with d | d
    · rw [d]; exact h.la
    · exact .inr (by omega)
  · rcases h2.lb with d | d
    · rw [d]; exact h.lb
    · exact .inr (by omega)
/-- What stands while a call of the reference's driver runs: its boxes, and its chip's rows. -/
structure Run (w W : World) (bw be a ka b kb : Nat) (s : Cf.Fl) (t : Int) (Z : Array Value) : Prop where
  two : TwoD w W a ka b kb (rf s) t Z
  post : RPost w W bw be a ka b kb s.c
section
variable {w W W1 W2 : World} {bw be a ka b kb a' ka' b' kb' : Nat} {s s' : Cf.Fl} {t t' : Int} {Z : Array Value}
theorem Run.box (h : Run w W bw be a ka b kb s t Z) : Dbox W w.heap.size a ka b kb (rf s) t := h.two.box
theorem Run.res (h : Run w W bw be a ka b kb s t Z) : W.heap[w.heap.size + 1]? = some (.cells Z 64 (0, 0)) := h.two.res
theorem Run.rat (h : Run w W bw be a ka b kb s t Z) : RAt W a ka b kb s.c := h.post.at_
theorem Run.then (h : Run w W bw be a ka b kb s t Z) (B : Below W.heap.size W W1) : Run w W1 bw be a ka b kb s t Z := ⟨h.two.then B, h.post.then B⟩
/-- A store into the box of the argument: another driver of the same chip. -/
theorem Run.row (h : Run w W bw be a ka b kb s t Z) (hb : Dbox W1 w.heap.size a ka b kb (rf s') t') (hc : s'.c = s.c) (hk : Keep (fun k => k = w.heap.size) W W1) : Run w W1 bw be a ka b kb s' t' Z :=
  ⟨h.two.row hb hk, by rw [hc]; exact ⟨rat_away h.post.at_ h.two.box (by decide) (by decide) hk, h.post.la, h.post.lb, below_row h.post.below hk (Nat.le_refl _)⟩⟩
/-- A store into a block that is neither, and no row. -/
theorem Run.away {r : Nat} {C : Array Value} {ty : TypeId} (h : Run w W bw be a ka b kb s t Z) (hr : w.heap.size + 1 < r) (hb : W.heap[r]? = some (.cells C ty (0, 0))) (h1 : ty ≠ 34) (h2 : ty ≠ 3) (hk : Keep (fun k => k = r) W W1) : Run w W1 bw be a ka b kb s t Z :=
  ⟨h.two.away hr hk, ⟨rat_away h.post.at_ hb h1 h2 hk, h.post.la, h.post.lb, below_row h.post.below hk (by omega)⟩⟩
theorem Run.tick (h : Run w W bw be a ka b kb s t Z) (x : Int) : Run w (W.setCell ⟨w.heap.size, 77, none⟩ (.int .i64 x)) bw be a ka b kb s x Z :=
  h.row (h.box.setTick x) rfl (Keep.setCell (S := fun k => k = w.heap.size) (Keep.refl _ W) (p := ⟨w.heap.size, 77, none⟩) (.inl rfl) _)
theorem Run.start {kw ke : Nat} (h : RAt w bw kw be ke s.c) (t : Int) (Z : Array Value) : Run w ((w.alloc (.cells (da bw kw be ke (rf s) t) 64)).alloc (.cells Z 64)) bw be bw kw be ke s t Z := by
  have T := TwoD.start w bw kw be ke (rf s) t Z
  exact ⟨T, RPost.same h T.below⟩
/-- The flash has turned, and has not been laid into the driver's box yet. -/
structure Mid (w W : World) (bw be a ka b kb a' ka' b' kb' : Nat) (s s' : Cf.Fl) (t : Int) (Z : Array Value) : Prop where
  two : TwoD w W a ka b kb (rf s) t Z
  post : RPost w W bw be a' ka' b' kb' s'.c
theorem Run.turn (h : Run w W bw be a ka b kb s t Z) (hp : RPost W W1 a b a' ka' b' kb' s'.c) : Mid w W1 bw be a ka b kb a' ka' b' kb' s s' t Z := ⟨h.two.then hp.below, h.post.chain hp⟩
theorem Run.same (h : Run w W bw be a ka b kb s t Z) (hc : s'.c = s.c) (B : Below W.heap.size W W1) : Mid w W1 bw be a ka b kb a ka b kb s s' t Z := ⟨h.two.then B, by rw [hc]; exact h.post.then B⟩
theorem Mid.then (h : Mid w W bw be a ka b kb a' ka' b' kb' s s' t Z) (B : Below W.heap.size W W1) : Mid w W1 bw be a ka b kb a' ka' b' kb' s s' t Z := ⟨h.two.then B, h.post.then B⟩
theorem Mid.away {r : Nat} {C : Array Value} {ty : TypeId} (h : Mid w W bw be a ka b kb a' ka' b' kb' s s' t Z) (hr : w.heap.size + 1 < r) (hb : W.heap[r]? = some (.cells C ty (0, 0))) (h1 : ty ≠ 34) (h2 : ty ≠ 3) (hk : Keep (fun k => k = r) W W1) : Mid w W1 bw be a ka b kb a' ka' b' kb' s s' t Z :=
  ⟨h.two.away hr hk, ⟨rat_away h.post.at_ hb h1 h2 hk, h.post.la, h.post.lb, below_row h.post.below hk (by omega)⟩⟩
theorem Mid.laid (h : Mid w W bw be a ka b kb a' ka' b' kb' s s' t Z) (hb : Dbox W1 w.heap.size a' ka' b' kb' (rf s') t') (hk : Keep (fun k => k = w.heap.size) W W1) : Run w W1 bw be a' ka' b' kb' s' t' Z :=
  ⟨h.two.row hb hk, ⟨rat_away h.post.at_ h.two.box (by decide) (by decide) hk, h.post.la, h.post.lb, below_row h.post.below hk (Nat.le_refl _)⟩⟩
theorem Run.lt (h : Run w W bw be a ka b kb s t Z) : w.heap.size + 1 < W.heap.size := (Array.getElem?_eq_some_iff.1 h.two.res).1
theorem Mid.lt (h : Mid w W bw be a ka b kb a' ka' b' kb' s s' t Z) : w.heap.size + 1 < W.heap.size := (Array.getElem?_eq_some_iff.1 h.two.res).1
/-- The end: the answer is laid into its box. -/
theorem Run.ends (h : Run w W bw be a ka b kb s t Z) (hk : Keep (fun k => k = w.heap.size + 1) W W1) : RPost w W1 bw be a ka b kb s.c :=
  ⟨rat_away h.post.at_ h.two.res (by decide) (by decide) hk, h.post.la, h.post.lb, below_row h.post.below hk (Nat.le_succ _)⟩
end
set_option maxHeartbeats 4000000 in
set_option maxRecDepth 100000 in
theorem wait_x {w : World} {bw kw be ke : Nat} {s s1 s2 : Cf.Fl} {j : Cf.Jb} {L : Nat} {t e r : Int} (hR : RAt w bw kw be ke s.c) (hL : 1 ≤ L) (hL2 : L ≤ 20) (t0 : 0 ≤ t) (t1 : t ≤ 1000000000) (eo : Eo s.errs) (hok : Hid (∀ l : Int, 0 ≤ l → l ≤ 20 → (Drv.at_ s j l).ok)) (hs : Hid (∀ l, Cf.status (Drv.at_ s j l) = 0)) (ht : Hid (∀ l : Int, 1 < l → Cf.tick (Drv.at_ s j l) 1 = (0, Drv.at_ s j (l - 1))))
    (hd : Hid (Cf.tick (Drv.at_ s j 1) 1 = (e, s1))) (he : Hid ((e = 4 ∧ r = 4 ∧ s1 = s2) ∨ (e = 0 ∧ r = 0 ∧ s1 = s2 ∧ Cf.status s1 = 128) ∨ (e = 0 ∧ r = 5 ∧ Cf.status s1 = 160 ∧ Cf.write s1 0 80 = (0, s2)))) :
    Calls Try.prog 50 #[.agg (da bw kw be ke (rf (Drv.at_ s j L)) t)] w fun x w' => ∃ a ka b kb, x = .returned (.tuple #[.agg (da a ka b kb (rf s2) (t + L)), .int .i64 r]) ∧ RPost w w' bw be a ka b kb s2.c := by
  have T0 := Run.start (s := Drv.at_ s j L) hR t Try.zeroCells64
  have EO1 : Eo s1.errs := by have := tick_eo (s := Drv.at_ s j 1) eo 1; rw [hd.out] at this; exact this
  have OK1 : s1.ok := by have := Cf.tick_ok (hok.out 1 (by decide) (by decide)) (n := 1); rw [hd.out] at this; exact this
  have TL : (L : Int) ≤ 20 := by omega
  go_enter Try.func50, Try.ntmps50
  go_upto_region 1 with (fail)
  generalize (w.alloc (.cells (da bw kw be ke (rf (Drv.at_ s j L)) t) 64)).alloc (.cells Try.zeroCells64 64) = W at *
  go_loopw [4] (fun x wr => ∃ a ka b kb, (∃ l : Nat, 1 ≤ l ∧ l ≤ L ∧ Run w wr bw be a ka b kb (Drv.at_ s j l) (t + (L : Int) - l) Try.zeroCells64) ∨ (e = 0 ∧ Run w wr bw be a ka b kb s1 (t + (L : Int)) Try.zeroCells64)) (fun x wr => (t + (L : Int) - intOf ((wr.cell? ⟨w.heap.size, 77, none⟩).getD undef)).toNat)
  case atStart => exact ⟨_, _, _, _, .inl ⟨L, hL, Nat.le_refl _, by rw [show t + (L : Int) - (L : Int) = t by omega]; exact T0⟩⟩
  case round =>
    clear T0
    obtain ⟨a, ka, b, kb, hrel⟩ := hrel
    rcases hrel with ⟨l, l1, l2, hD⟩ | ⟨rfl, hD⟩
    · obtain ⟨tt, htt⟩ : ∃ tt : Int, t + (L : Int) - l = tt := ⟨_, rfl⟩
      rw [htt] at hD
      have c2x := hD.box.tick
      have ht0 : 0 ≤ tt := by omega
      have ht1 : tt ≤ 1000000020 := by omega
      have hs1 := Lib.hid (hs.out l)
      have okl := hok.out l (by omega) (by omega)
      by_cases hl1 : 1 < l
      · have q := Lib.hid (ht.out l (by omega))
        go_wp2_with (first | (refine load_df rfl _ rfl rfl hD.box ?_) | (go_at_call 63; refine (status_x (show Eo (Drv.at_ s j l).errs from eo) hs1).mono ?_; rintro x w4 ⟨rfl, b4⟩; have T4 := hD.then b4; clear hD b4) | (refine load_df rfl _ rfl rfl T4.box ?_) | (go_at_call 64; refine (tick_x T4.rat okl eo q).mono ?_; rintro x w5 ⟨a5, ka5, b5, kb5, rfl, hp5⟩; have M5 := T4.turn hp5; have l5 := M5.lt; have HZ := heap_alloc_new w5 (.cells Try.zeroCells62 62); have M6 := M5.then (below_al w5 (.cells Try.zeroCells62 62)); clear T4 M5 hp5) | (refine store_f rfl _ _ rfl rfl rfl HZ zero77 ?_; intro w7 hb7 hk7 hs7; have M7 := M6.away l5 HZ (by decide) (by decide) hk7; clear M6 HZ hk7 hs7 l5) | (refine load_f rfl _ rfl rfl hb7 ?_) | (refine store_df rfl _ _ rfl rfl rfl M7.two.box ?_; intro w8 hb8 hk8 hs8; have T8 := M7.laid hb8 hk8; have c77 := hb8.tick; have f77 := hb8.free 77; have T9 := T8.tick (tt + 1); clear M7 hb7 hb8 hk8 hs8))
        go_roundw
        case rel => exact ⟨_, _, _, _, .inl ⟨l - 1, by omega, by omega, by
          rw [show t + (L : Int) - ((l - 1 : Nat) : Int) = tt + 1 by omega, show ((l - 1 : Nat) : Int) = (l : Int) - 1 by omega]
          exact T9⟩⟩
        case measure =>
          have c9 := T9.box.tick
          rw [c9, c2x]; simp [intOf]; omega
      · obtain rfl : l = 1 := by omega
        rcases he.out with ⟨rfl, rfl, rfl⟩ | ⟨rfl, rfl, rfl, hst⟩ | ⟨rfl, rfl, hst, hwr⟩
        · go_wp2_with (first | (refine load_df rfl _ rfl rfl hD.box ?_) | (go_at_call 63; refine (status_x (show Eo (Drv.at_ s j (1 : Nat)).errs from eo) hs1).mono ?_; rintro x w4 ⟨rfl, b4⟩; have T4 := hD.then b4; clear hD b4) | (refine load_df rfl _ rfl rfl T4.box ?_) | (go_at_call 64; refine (tick_x T4.rat okl eo hd).mono ?_; rintro x w5 ⟨a5, ka5, b5, kb5, rfl, hp5⟩; have M5 := T4.turn hp5; have l5 := M5.lt; have HZ := heap_alloc_new w5 (.cells Try.zeroCells62 62); have M6 := M5.then (below_al w5 (.cells Try.zeroCells62 62)); clear T4 M5 hp5) | (refine store_f rfl _ _ rfl rfl rfl HZ zero77 ?_; intro w7 hb7 hk7 hs7; have M7 := M6.away l5 HZ (by decide) (by decide) hk7; clear M6 HZ hk7 hs7 l5) | (refine load_f rfl _ rfl rfl hb7 ?_) | (refine store_df rfl _ _ rfl rfl rfl M7.two.box ?_; intro w8 hb8 hk8 hs8; have T8 := M7.laid hb8 hk8; have c77 := hb8.tick; have f77 := hb8.free 77; have T9 := T8.tick (tt + 1); clear M7 hb7 hb8 hk8 hs8) | (refine load_d rfl _ rfl rfl T9.box ?_) | (refine store_d rfl _ _ rfl rfl rfl T9.res zero78 ?_; intro wE hbE hkE hsE))
          refine bodyPost_ret (retD2 rfl _ _ (w.heap.size + 1) _ rfl rfl hbE) rfl ⟨_, _, _, _, ?_, T9.ends hkE⟩
          rw [show t + (L : Int) = tt + 1 by omega]
          rfl
        · go_wp2_with (first | (refine load_df rfl _ rfl rfl hD.box ?_) | (go_at_call 63; refine (status_x (show Eo (Drv.at_ s j (1 : Nat)).errs from eo) hs1).mono ?_; rintro x w4 ⟨rfl, b4⟩; have T4 := hD.then b4; clear hD b4) | (refine load_df rfl _ rfl rfl T4.box ?_) | (go_at_call 64; refine (tick_x T4.rat okl eo hd).mono ?_; rintro x w5 ⟨a5, ka5, b5, kb5, rfl, hp5⟩; have M5 := T4.turn hp5; have l5 := M5.lt; have HZ := heap_alloc_new w5 (.cells Try.zeroCells62 62); have M6 := M5.then (below_al w5 (.cells Try.zeroCells62 62)); clear T4 M5 hp5) | (refine store_f rfl _ _ rfl rfl rfl HZ zero77 ?_; intro w7 hb7 hk7 hs7; have M7 := M6.away l5 HZ (by decide) (by decide) hk7; clear M6 HZ hk7 hs7 l5) | (refine load_f rfl _ rfl rfl hb7 ?_) | (refine store_df rfl _ _ rfl rfl rfl M7.two.box ?_; intro w8 hb8 hk8 hs8; have T8 := M7.laid hb8 hk8; have c77 := hb8.tick; have f77 := hb8.free 77; have T9 := T8.tick (tt + 1); clear M7 hb7 hb8 hk8 hs8))
          go_roundw
          case rel => exact ⟨_, _, _, _, .inr ⟨trivial, by
            rw [show t + (L : Int) = tt + 1 by omega]
            exact T9⟩⟩
          case measure =>
            have c9 := T9.box.tick
            rw [c9, c2x]; simp [intOf]; omega
        · go_wp2_with (first | (refine load_df rfl _ rfl rfl hD.box ?_) | (go_at_call 63; refine (status_x (show Eo (Drv.at_ s j (1 : Nat)).errs from eo) hs1).mono ?_; rintro x w4 ⟨rfl, b4⟩; have T4 := hD.then b4; clear hD b4) | (refine load_df rfl _ rfl rfl T4.box ?_) | (go_at_call 64; refine (tick_x T4.rat okl eo hd).mono ?_; rintro x w5 ⟨a5, ka5, b5, kb5, rfl, hp5⟩; have M5 := T4.turn hp5; have l5 := M5.lt; have HZ := heap_alloc_new w5 (.cells Try.zeroCells62 62); have M6 := M5.then (below_al w5 (.cells Try.zeroCells62 62)); clear T4 M5 hp5) | (refine store_f rfl _ _ rfl rfl rfl HZ zero77 ?_; intro w7 hb7 hk7 hs7; have M7 := M6.away l5 HZ (by decide) (by decide) hk7; clear M6 HZ hk7 hs7 l5) | (refine load_f rfl _ rfl rfl hb7 ?_) | (refine store_df rfl _ _ rfl rfl rfl M7.two.box ?_; intro w8 hb8 hk8 hs8; have T8 := M7.laid hb8 hk8; have c77 := hb8.tick; have f77 := hb8.free 77; have T9 := T8.tick (tt + 1); clear M7 hb7 hb8 hk8 hs8))
          go_roundw
          case rel => exact ⟨_, _, _, _, .inr ⟨trivial, by
            rw [show t + (L : Int) = tt + 1 by omega]
            exact T9⟩⟩
          case measure =>
            have c9 := T9.box.tick
            rw [c9, c2x]; simp [intOf]; omega
    · rcases he.out with ⟨h4, _⟩ | ⟨_, rfl, rfl, hst⟩ | ⟨_, rfl, hst, hwr⟩
      · exact absurd h4 (by decide)
      · have hst' := Lib.hid hst
        clear hst
        go_wp2_with (first | (refine load_df rfl _ rfl rfl hD.box ?_) | (go_at_call 63; refine (status_x EO1 hst').mono ?_; rintro x w4 ⟨rfl, b4⟩; have T4 := hD.then b4; clear hD b4) | (refine load_d rfl _ rfl rfl T4.box ?_) | (go_at_call 52; refine (errors_ok EO1 hst').mono ?_; rintro x w6 ⟨rfl, b6⟩; have T6 := T4.then b6; clear T4 b6) | (refine store_d rfl _ _ rfl rfl rfl T6.res zero78 ?_; intro wE hbE hkE hsE))
        exact bodyPost_ret (retD2 rfl _ _ (w.heap.size + 1) _ rfl rfl hbE) rfl ⟨_, _, _, _, rfl, T6.ends hkE⟩
      · have hst' := Lib.hid hst
        have hwr' := Lib.hid hwr
        have hcc : s2.c = s1.c := by have := Rfl.write_c s1 0 80; rw [hwr] at this; exact this
        clear hst hwr
        go_wp2_with (first | (refine load_df rfl _ rfl rfl hD.box ?_) | (go_at_call 63; refine (status_x EO1 hst').mono ?_; rintro x w4 ⟨rfl, b4⟩; have T4 := hD.then b4; clear hD b4) | (refine load_d rfl _ rfl rfl T4.box ?_) | (go_at_call 52; refine (errors_bad T4.rat.ok OK1 EO1 (.inr (.inr ⟨rfl, rfl⟩)) hst' hwr').mono ?_; rintro x w6 ⟨rfl, b6⟩; have T6 := T4.then b6; clear T4 b6) | (refine store_d rfl _ _ rfl rfl rfl T6.res zero78 ?_; intro wE hbE hkE hsE))
        exact bodyPost_ret (retD2 rfl _ _ (w.heap.size + 1) _ rfl rfl hbE) rfl ⟨_, _, _, _, rfl, by rw [hcc]; exact T6.ends hkE⟩
end Rdl
end Go.Proofs.Ytfghlfolejpjjaa

/- The reference's driver: Erase, Lock, walked. -/
namespace Go.Proofs.Ytfghlfolejpjjaa
open Go.RowKit
set_option linter.unusedVariables false
set_option linter.unusedSimpArgs false
attribute [local go_sem] max2_int min2_int max_two min_two
namespace Rdl
open Rfl Rcfi Rnor
set_option maxHeartbeats 1000000 in
set_option maxRecDepth 100000 in
theorem wait_bad {w : World} {bw kw be ke : Nat} {s s' : Cf.Fl} {t : Int} (hc : s.c.ok) (hs : s.ok) (h : Eo s.errs) {v u r : Int} (hv : v = 146 ∧ r = 6 ∨ v = 162 ∧ r = 6) (q : Hid (Cf.status s = v)) (q2 : Hid (Cf.write s 0 80 = (u, s'))) :
    Calls Try.prog 50 #[.agg (da bw kw be ke (rf s) t)] w fun x w' => x = .returned (.tuple #[.agg (da bw kw be ke (rf s') t), .int .i64 r]) ∧ Below w.heap.size w w' := by
  rcases hv with ⟨rfl, rfl⟩ | ⟨rfl, rfl⟩
  all_goals
    have T0 := TwoD.start w bw kw be ke (rf s) t Try.zeroCells64
    go_enter Try.func50, Try.ntmps50
    go_upto_region 1 with (fail)
    generalize (w.alloc (.cells (da bw kw be ke (rf s) t) 64)).alloc (.cells Try.zeroCells64 64) = W at *
    refine wp_loop_rounds 3 ?_
    rw [rounds_succ]
    go_wp2_with (first | (refine load_df rfl _ rfl rfl T0.box ?_) | (go_at_call 63; refine (status_x h q).mono ?_; rintro x w1 ⟨rfl, b1⟩; have T1 := T0.then b1; clear T0 b1) | (refine load_d rfl _ rfl rfl T1.box ?_) | (go_at_call 52; refine (errors_bad (r := 6) hc hs h (by first | exact .inl ⟨rfl, rfl⟩ | exact .inr (.inl ⟨rfl, rfl⟩)) q q2).mono ?_; rintro x w6 ⟨rfl, b6⟩; have T6 := T1.then b6; clear T1 b6) | (refine store_d rfl _ _ rfl rfl rfl T6.res zero78 ?_; intro wE hbE hkE hsE))
    exact bodyPost_ret (retD2 rfl _ _ (w.heap.size + 1) _ rfl rfl hbE) rfl ⟨rfl, below_row T6.below hkE (Nat.le_succ _)⟩
set_option maxHeartbeats 1000000 in
set_option maxRecDepth 100000 in
theorem eraseA {w : World} {bw kw be ke : Nat} {s s' : Cf.Fl} {t b e : Int} (hc : s.c.ok) (hs : s.ok) (h : Eo s.errs) (ha : -100000000000000 ≤ b) (ha' : b ≤ 100000000000000) (he : ¬ e = 0) (q : Hid (Cf.both s (b * 64) 32 208 = (e, s'))) :
    Calls Try.prog 26 #[.agg (da bw kw be ke (rf s) t), .int .i64 b] w fun x w' => x = .returned (.tuple #[.agg (da bw kw be ke (rf s') t), .int .i64 e]) ∧ Below w.heap.size w w' := by
  have hb1 : (e != 0) = true := by simpa using he
  have hb2 : (e == 0) = false := by simpa using he
  clear he
  have T0 := TwoD.start w bw kw be ke (rf s) t Try.zeroCells64
  go_enter Try.func26, Try.ntmps26
  go_upto_region 1 with (fail)
  generalize (w.alloc (.cells (da bw kw be ke (rf s) t) 64)).alloc (.cells Try.zeroCells64 64) = W at *
  have TA := T0.then (below_al W (.cells #[.int .u32 32, .int .u32 208] 34))
  have A0 := World.cell?_alloc_mark W #[.int .u32 32, .int .u32 208] 34 (0, 0) 0
  have A1 := World.cell?_alloc_mark W #[.int .u32 32, .int .u32 208] 34 (0, 0) 1
  go_wp2_with (first | (refine load_d rfl _ rfl rfl T0.box ?_) | (go_at_call 49; refine (write2_c hc hs h (by decide) (by decide) A0 A1 q).mono ?_; rintro x w2 ⟨rfl, b2⟩; have T2 := TA.then b2; have l2 : w.heap.size + 1 < w2.heap.size := (Array.getElem?_eq_some_iff.1 T2.res).1; have HZ := heap_alloc_new w2 (.cells Try.zeroCells64 64); have T3 := T2.then (below_al w2 (.cells Try.zeroCells64 64)); clear TA T2 T0 A0 A1 b2) | (refine store_d rfl _ _ rfl rfl rfl HZ zero78 ?_; intro w4 hb4 hk4 hs4; have T4 := T3.away l2 hk4; clear T3 HZ hk4 hs4) | (refine load_d rfl _ rfl rfl hb4 ?_) | (refine store_d rfl _ _ rfl rfl rfl T4.res zero78 ?_; intro wE hbE hkE hsE))
  exact bodyPost_ret (retD2 rfl _ _ (w.heap.size + 1) _ rfl rfl hbE) rfl ⟨rfl, below_row T4.below hkE (Nat.le_succ _)⟩
set_option maxHeartbeats 1000000 in
set_option maxRecDepth 100000 in
theorem eraseB {w : World} {bw kw be ke : Nat} {s s1 s2 : Cf.Fl} {t t2 b r : Int} (hR : RAt w bw kw be ke s.c) (hs : s.ok) (h : Eo s.errs) (ha : -100000000000000 ≤ b) (ha' : b ≤ 100000000000000) (q : Hid (Cf.both s (b * 64) 32 208 = (0, s1)))
    (hw : ∀ W, RAt W bw kw be ke s.c → Calls Try.prog 50 #[.agg (da bw kw be ke (rf s1) t)] W fun x w' => ∃ a ka b kb, x = .returned (.tuple #[.agg (da a ka b kb (rf s2) t2), .int .i64 r]) ∧ RPost W w' bw be a ka b kb s2.c) :
    Calls Try.prog 26 #[.agg (da bw kw be ke (rf s) t), .int .i64 b] w fun x w' => ∃ a ka b kb, x = .returned (.tuple #[.agg (da a ka b kb (rf s2) t2), .int .i64 r]) ∧ RPost w w' bw be a ka b kb s2.c := by
  have hc := hR.ok
  have T0 := TwoD.start w bw kw be ke (rf s) t Try.zeroCells64
  go_enter Try.func26, Try.ntmps26
  go_upto_region 1 with (fail)
  generalize (w.alloc (.cells (da bw kw be ke (rf s) t) 64)).alloc (.cells Try.zeroCells64 64) = W at *
  have TA := T0.then (below_al W (.cells #[.int .u32 32, .int .u32 208] 34))
  have A0 := World.cell?_alloc_mark W #[.int .u32 32, .int .u32 208] 34 (0, 0) 0
  have A1 := World.cell?_alloc_mark W #[.int .u32 32, .int .u32 208] 34 (0, 0) 1
  go_wp2_with (first | (refine load_d rfl _ rfl rfl T0.box ?_) | (go_at_call 49; refine (write2_c hc hs h (by decide) (by decide) A0 A1 q).mono ?_; rintro x w2 ⟨rfl, b2⟩; have T2 := TA.then b2; have l2 : w.heap.size + 1 < w2.heap.size := (Array.getElem?_eq_some_iff.1 T2.res).1; have HZ := heap_alloc_new w2 (.cells Try.zeroCells64 64); have T3 := T2.then (below_al w2 (.cells Try.zeroCells64 64)); clear TA T2 T0 A0 A1 b2) | (refine store_d rfl _ _ rfl rfl rfl HZ zero78 ?_; intro w4 hb4 hk4 hs4; have T4 := T3.away l2 hk4; clear T3 HZ hk4 hs4) | (refine load_d rfl _ rfl rfl hb4 ?_) | (go_at_call 50; have hR4 := hR.below T4.below; refine (hw w4 hR4).mono ?_; rintro x w5 ⟨a5, ka5, b5, kb5, rfl, hp5⟩; have T5 := T4.then hp5.below) | (refine store_d rfl _ _ rfl rfl rfl T5.res zero78 ?_; intro wE hbE hkE hsE))
  have P := (RPost.same hR T4.below).chain hp5
  exact bodyPost_ret (retD2 rfl _ _ (w.heap.size + 1) _ rfl rfl hbE) rfl ⟨_, _, _, _, rfl, rat_away P.at_ T5.res (by decide) (by decide) hkE, P.la, P.lb, below_row P.below hkE (Nat.le_succ _)⟩
set_option maxHeartbeats 1000000 in
set_option maxRecDepth 100000 in
theorem lockOnA {w : World} {bw kw be ke : Nat} {s s' : Cf.Fl} {t b e : Int} (hc : s.c.ok) (hs : s.ok) (h : Eo s.errs) (ha : -100000000000000 ≤ b) (ha' : b ≤ 100000000000000) (he : ¬ e = 0) (q : Hid (Cf.both s (b * 64) 96 1 = (e, s'))) :
    Calls Try.prog 28 #[.agg (da bw kw be ke (rf s) t), .int .i64 b, .bool true] w fun x w' => x = .returned (.tuple #[.agg (da bw kw be ke (rf s') t), .int .i64 e]) ∧ Below w.heap.size w w' := by
  have hb1 : (e != 0) = true := by simpa using he
  have hb2 : (e == 0) = false := by simpa using he
  clear he
  have T0 := TwoD.start w bw kw be ke (rf s) t Try.zeroCells64
  go_enter Try.func28, Try.ntmps28
  go_upto_region 1 with (fail)
  generalize (w.alloc (.cells (da bw kw be ke (rf s) t) 64)).alloc (.cells Try.zeroCells64 64) = W at *
  have TA := T0.then (below_al W (.cells #[.int .u32 96, .int .u32 1] 34))
  have A0 := World.cell?_alloc_mark W #[.int .u32 96, .int .u32 1] 34 (0, 0) 0
  have A1 := World.cell?_alloc_mark W #[.int .u32 96, .int .u32 1] 34 (0, 0) 1
  go_wp2_with (first | (refine load_d rfl _ rfl rfl T0.box ?_) | (go_at_call 49; refine (write2_c hc hs h (by decide) (by decide) A0 A1 q).mono ?_; rintro x w2 ⟨rfl, b2⟩; have T2 := TA.then b2; have l2 : w.heap.size + 1 < w2.heap.size := (Array.getElem?_eq_some_iff.1 T2.res).1; have HZ := heap_alloc_new w2 (.cells Try.zeroCells64 64); have T3 := T2.then (below_al w2 (.cells Try.zeroCells64 64)); clear TA T2 T0 A0 A1 b2) | (refine store_d rfl _ _ rfl rfl rfl HZ zero78 ?_; intro w4 hb4 hk4 hs4; have T4 := T3.away l2 hk4; clear T3 HZ hk4 hs4) | (refine load_d rfl _ rfl rfl hb4 ?_) | (refine store_d rfl _ _ rfl rfl rfl T4.res zero78 ?_; intro wE hbE hkE hsE))
  exact bodyPost_ret (retD2 rfl _ _ (w.heap.size + 1) _ rfl rfl hbE) rfl ⟨rfl, below_row T4.below hkE (Nat.le_succ _)⟩
set_option maxHeartbeats 1000000 in
set_option maxRecDepth 100000 in
theorem lockOnB {w : World} {bw kw be ke : Nat} {s s1 : Cf.Fl} {t b : Int} (hc : s.c.ok) (hs : s.ok) (h : Eo s.errs) (ha : -100000000000000 ≤ b) (ha' : b ≤ 100000000000000) (q : Hid (Cf.both s (b * 64) 96 1 = (0, s1))) (h1 : Eo s1.errs) (q1 : Hid (Cf.status s1 = 128)) :
    Calls Try.prog 28 #[.agg (da bw kw be ke (rf s) t), .int .i64 b, .bool true] w fun x w' => x = .returned (.tuple #[.agg (da bw kw be ke (rf s1) t), .int .i64 0]) ∧ Below w.heap.size w w' := by
  have T0 := TwoD.start w bw kw be ke (rf s) t Try.zeroCells64
  go_enter Try.func28, Try.ntmps28
  go_upto_region 1 with (fail)
  generalize (w.alloc (.cells (da bw kw be ke (rf s) t) 64)).alloc (.cells Try.zeroCells64 64) = W at *
  have TA := T0.then (below_al W (.cells #[.int .u32 96, .int .u32 1] 34))
  have A0 := World.cell?_alloc_mark W #[.int .u32 96, .int .u32 1] 34 (0, 0) 0
  have A1 := World.cell?_alloc_mark W #[.int .u32 96, .int .u32 1] 34 (0, 0) 1
  go_wp2_with (first | (refine load_d rfl _ rfl rfl T0.box ?_) | (go_at_call 49; refine (write2_c hc hs h (by decide) (by decide) A0 A1 q).mono ?_; rintro x w2 ⟨rfl, b2⟩; have T2 := TA.then b2; have l2 : w.heap.size + 1 < w2.heap.size := (Array.getElem?_eq_some_iff.1 T2.res).1; have HZ := heap_alloc_new w2 (.cells Try.zeroCells64 64); have T3 := T2.then (below_al w2 (.cells Try.zeroCells64 64)); clear TA T2 T0 A0 A1 b2) | (refine store_d rfl _ _ rfl rfl rfl HZ zero78 ?_; intro w4 hb4 hk4 hs4; have T4 := T3.away l2 hk4; clear T3 HZ hk4 hs4) | (refine load_d rfl _ rfl rfl hb4 ?_) | (go_at_call 52; refine (errors_ok h1 q1).mono ?_; rintro x w5 ⟨rfl, b5⟩; have T5 := T4.then b5; clear b5) | (refine store_d rfl _ _ rfl rfl rfl T5.res zero78 ?_; intro wE hbE hkE hsE))
  exact bodyPost_ret (retD2 rfl _ _ (w.heap.size + 1) _ rfl rfl hbE) rfl ⟨rfl, below_row T5.below hkE (Nat.le_succ _)⟩
set_option maxHeartbeats 1000000 in
set_option maxRecDepth 100000 in
theorem lockOffA {w : World} {bw kw be ke : Nat} {s s' : Cf.Fl} {t b e : Int} (hc : s.c.ok) (hs : s.ok) (h : Eo s.errs) (ha : -100000000000000 ≤ b) (ha' : b ≤ 100000000000000) (he : ¬ e = 0) (q : Hid (Cf.both s (b * 64) 96 208 = (e, s'))) :
    Calls Try.prog 28 #[.agg (da bw kw be ke (rf s) t), .int .i64 b, .bool false] w fun x w' => x = .returned (.tuple #[.agg (da bw kw be ke (rf s') t), .int .i64 e]) ∧ Below w.heap.size w w' := by
  have hb1 : (e != 0) = true := by simpa using he
  have hb2 : (e == 0) = false := by simpa using he
  clear he
  have T0 := TwoD.start w bw kw be ke (rf s) t Try.zeroCells64
  go_enter Try.func28, Try.ntmps28
  go_upto_region 1 with (fail)
  generalize (w.alloc (.cells (da bw kw be ke (rf s) t) 64)).alloc (.cells Try.zeroCells64 64) = W at *
  have TA := T0.then (below_al W (.cells #[.int .u32 96, .int .u32 208] 34))
  have A0 := World.cell?_alloc_mark W #[.int .u32 96, .int .u32 208] 34 (0, 0) 0
  have A1 := World.cell?_alloc_mark W #[.int .u32 96, .int .u32 208] 34 (0, 0) 1
  go_wp2_with (first | (refine load_d rfl _ rfl rfl T0.box ?_) | (go_at_call 49; refine (write2_c hc hs h (by decide) (by decide) A0 A1 q).mono ?_; rintro x w2 ⟨rfl, b2⟩; have T2 := TA.then b2; have l2 : w.heap.size + 1 < w2.heap.size := (Array.getElem?_eq_some_iff.1 T2.res).1; have HZ := heap_alloc_new w2 (.cells Try.zeroCells64 64); have T3 := T2.then (below_al w2 (.cells Try.zeroCells64 64)); clear TA T2 T0 A0 A1 b2) | (refine store_d rfl _ _ rfl rfl rfl HZ zero78 ?_; intro w4 hb4 hk4 hs4; have T4 := T3.away l2 hk4; clear T3 HZ hk4 hs4) | (refine load_d rfl _ rfl rfl hb4 ?_) | (refine store_d rfl _ _ rfl rfl rfl T4.res zero78 ?_; intro wE hbE hkE hsE))
  exact bodyPost_ret (retD2 rfl _ _ (w.heap.size + 1) _ rfl rfl hbE) rfl ⟨rfl, below_row T4.below hkE (Nat.le_succ _)⟩
set_option maxHeartbeats 1000000 in
set_option maxRecDepth 100000 in
theorem lockOffB {w : World} {bw kw be ke : Nat} {s s1 : Cf.Fl} {t b : Int} (hc : s.c.ok) (hs : s.ok) (h : Eo s.errs) (ha : -100000000000000 ≤ b) (ha' : b ≤ 100000000000000) (q : Hid (Cf.both s (b * 64) 96 208 = (0, s1))) (h1 : Eo s1.errs) (q1 : Hid (Cf.status s1 = 128)) :
    Calls Try.prog 28 #[.agg (da bw kw be ke (rf s) t), .int .i64 b, .bool false] w fun x w' => x = .returned (.tuple #[.agg (da bw kw be ke (rf s1) t), .int .i64 0]) ∧ Below w.heap.size w w' := by
  have T0 := TwoD.start w bw kw be ke (rf s) t Try.zeroCells64
  go_enter Try.func28, Try.ntmps28
  go_upto_region 1 with (fail)
  generalize (w.alloc (.cells (da bw kw be ke (rf s) t) 64)).alloc (.cells Try.zeroCells64 64) = W at *
  have TA := T0.then (below_al W (.cells #[.int .u32 96, .int .u32 208] 34))
  have A0 := World.cell?_alloc_mark W #[.int .u32 96, .int .u32 208] 34 (0, 0) 0
  have A1 := World.cell?_alloc_mark W #[.int .u32 96, .int .u32 208] 34 (0, 0) 1
  go_wp2_with (first | (refine load_d rfl _ rfl rfl T0.box ?_) | (go_at_call 49; refine (write2_c hc hs h (by decide) (by decide) A0 A1 q).mono ?_; rintro x w2 ⟨rfl, b2⟩; have T2 := TA.then b2; have l2 : w.heap.size + 1 < w2.heap.size := (Array.getElem?_eq_some_iff.1 T2.res).1; have HZ := heap_alloc_new w2 (.cells Try.zeroCells64 64); have T3 := T2.then (below_al w2 (.cells Try.zeroCells64 64)); clear TA T2 T0 A0 A1 b2) | (refine store_d rfl _ _ rfl rfl rfl HZ zero78 ?_; intro w4 hb4 hk4 hs4; have T4 := T3.away l2 hk4; clear T3 HZ hk4 hs4) | (refine load_d rfl _ rfl rfl hb4 ?_) | (go_at_call 52; refine (errors_ok h1 q1).mono ?_; rintro x w5 ⟨rfl, b5⟩; have T5 := T4.then b5; clear b5) | (refine store_d rfl _ _ rfl rfl rfl T5.res zero78 ?_; intro wE hbE hkE hsE))
  exact bodyPost_ret (retD2 rfl _ _ (w.heap.size + 1) _ rfl rfl hbE) rfl ⟨rfl, below_row T5.below hkE (Nat.le_succ _)⟩
end Rdl
end Go.Proofs.Ytfghlfolejpjjaa

/- The reference's driver by equations: one word, Erase, Lock. -/
namespace Go.Proofs.Ytfghlfolejpjjaa
open Go.RowKit
set_option linter.unusedVariables false
set_option linter.unusedSimpArgs false
namespace Cf
theorem calm_ok1 {s : Fl} (h : s.ok) (m : Int) (m0 : 0 ≤ m) (m1 : m ≤ 3) (c : Nr.C) (hj : s.job = none) (L : Int → Bool) : ({ s with c := c, mode := m, locks := L } : Fl).ok :=
  ⟨m0, m1, h.waits, h.elo, h.ehi, fun j e => by simp only [hj] at e; cases e⟩
theorem pw_ok {s : Fl} (h : s.ok) (hc : Calm s) (a v : Int) : (pw s a v).2.2.ok := by
  unfold pw
  split
  · split
    · exact calm_ok1 h 1 (by decide) (by decide) s.c hc.job s.locks
    · exact calm_ok1 h 1 (by decide) (by decide) _ hc.job s.locks
  · exact h
theorem ew_ok {s : Fl} (h : s.ok) (hc : Calm s) (b : Int) : (ew s b).2.2.ok := by
  unfold ew
  split
  · split
    · exact calm_ok1 h 1 (by decide) (by decide) s.c hc.job s.locks
    · exact calm_ok1 h 1 (by decide) (by decide) _ hc.job s.locks
  · exact h
theorem lw_ok {s : Fl} (h : s.ok) (hc : Calm s) (b : Int) (on : Bool) : (lw s b on).2.ok := by
  unfold lw
  split
  · exact calm_ok1 h 1 (by decide) (by decide) s.c hc.job _
  · exact h
theorem pwN_ok {s : Fl} (h : s.ok) (hc : Calm s) (a : Int) (zs : List Int) : ∀ k, (pwN s a zs k).2.2.ok
  | 0 => h
  | k + 1 => by unfold pwN; split; exact pw_ok (pwN_ok h hc a zs k) (pwN_calm hc a zs k) _ _; exact pwN_ok h hc a zs k
theorem at_ok {s : Fl} (h : s.ok) (hc : Calm s) {j : Jb} (hv : 0 ≤ j.v ∧ j.v < 4294967296) (l : Int) (l0 : 0 ≤ l) (l1 : l ≤ 20) : (Drv.at_ { s with mode := 1 } j l).ok := by
  refine ⟨by show (0 : Int) ≤ 1; decide, by show (1 : Int) ≤ 3; decide, h.waits, h.elo, h.ehi, fun j' e => ?_⟩
  simp only [Drv.at_, Option.some.injEq] at e
  subst e
  exact ⟨l0, l1, hv.1, hv.2⟩
end Cf
theorem Cf.Calm.eo {s : Cf.Fl} (h : Cf.Calm s) : Rfl.Eo s.errs := .inl h.errs
namespace Rdl
open Rfl Rcfi Rnor
/-- What wait makes of a driver, for each place of its rows. -/
def Waits (s s1 s2 : Cf.Fl) (k r : Int) : Prop := ∀ (W : World) (bw kw be ke : Nat) (t : Int), RAt W bw kw be ke s.c → 0 ≤ t → t ≤ 1000000000 → Calls Try.prog 50 #[.agg (da bw kw be ke (rf s1) t)] W fun x w' => ∃ a ka b kb, x = .returned (.tuple #[.agg (da a ka b kb (rf s2) (t + k)), .int .i64 r]) ∧ RPost W w' bw be a ka b kb s2.c
theorem waits_bad {s s1 s2 : Cf.Fl} {v r u : Int} (hs : s1.ok) (h : Eo s1.errs) (hc1 : s1.c = s.c) (hc2 : s2.c = s.c) (hv : v = 146 ∧ r = 6 ∨ v = 162 ∧ r = 6) (q : Hid (Cf.status s1 = v)) (q2 : Hid (Cf.write s1 0 80 = (u, s2))) : Waits s s1 s2 0 r := by
  intro W bw kw be ke t R t0 t1
  refine (wait_bad (t := t) (hc1 ▸ R.ok) hs h hv q q2).mono ?_
  rintro x w' ⟨rfl, b⟩
  refine ⟨bw, kw, be, ke, by rw [show t + 0 = t by omega], ?_⟩
  rw [hc2]
  exact RPost.same R b
theorem waits_job {s : Cf.Fl} (h : Cf.Calm s) (hs : s.ok) (hok : s.c.ok) (hw0 : Cf.wrong s 0 = 0) (j : Cf.Jb) {L : Nat} (hL : 1 ≤ L) (hL2 : L ≤ 20) (hv : 0 ≤ j.v ∧ j.v < 4294967296) {e : Int} {c' : Nr.C} (hd : Cf.does s.c j = (e, c')) (h5 : e = 4 ∨ e = 0 ∨ (e = 5 ∧ c' = s.c)) : Waits s (Drv.at_ { s with mode := 1 } j L) { s with c := c', mode := 1 } L e := by
  intro W bw kw be ke t R t0 t1
  obtain ⟨j1, j2, x1, s1, j3, j4⟩ := Cf.job_ticks h hok hw0 j hd h5
  exact wait_x (s := { s with mode := 1 }) R hL hL2 t0 t1 h.eo (Lib.hid fun l l0 l1 => Cf.at_ok hs h hv l l0 l1) (Lib.hid j1) (Lib.hid j2) (Lib.hid j3) (Lib.hid j4)
theorem word_cases {s : Cf.Fl} (hc : Cf.Calm s) (hs : s.ok) (hok : s.c.ok) (at_ v : Int) (hv : 0 ≤ v ∧ v < 4294967296) :
    (∃ e, ¬ e = 0 ∧ Cf.both s at_ 64 v = (e, s) ∧ Cf.pw s at_ v = (e, 0, s)) ∨ ∃ s1 s2 k r, Cf.both s at_ 64 v = (0, s1) ∧ Cf.pw s at_ v = (r, k, s2) ∧ s1.c = s.c ∧ Waits s s1 s2 k r := by
  by_cases hw : Cf.wrong s at_ = 0
  · right
    have hw0 := Cf.wrong_0 hok hw
    have hb := Cf.both_prog hc (v := v) hw
    rw [Cf.calm_w hc] at hb
    by_cases hl : s.locks (at_ / 64) = true
    · have e : Cf.pw s at_ v = (6, 0, { s with mode := 1 }) := by unfold Cf.pw; rw [if_pos hw, if_pos hl]
      have e2 : Cf.prog1 { s with mode := 1 } at_ v = { s with mode := 1, errs := bits .or .u32 s.errs 18 } := by unfold Cf.prog1; rw [if_pos hl]; rfl
      rw [e2] at hb
      have hst : Cf.status ({ s with mode := 1, errs := bits .or .u32 s.errs 18 } : Cf.Fl) = 146 := by
        refine (Cf.status_none (s := { s with mode := 1, errs := bits .or .u32 s.errs 18 }) hc.job).trans ?_
        show bits .or .u32 (bits .or .u32 s.errs 18) 128 = 146
        rw [hc.errs]; decide
      have hcl := Cf.clears hc hw0 s.c ⟨rfl, rfl⟩ (bits .or .u32 s.errs 18)
      have hE : Eo (bits .or .u32 s.errs 18) := hc.eo.or (by decide)
      exact ⟨_, _, _, _, hb, e, rfl, waits_bad (v := 146) (Cf.setE_ok (b := 18) (Cf.calm_ok1 hs 1 (by decide) (by decide) s.c hc.job s.locks) (by decide) (by decide)) hE rfl rfl (.inl ⟨rfl, rfl⟩) (Lib.hid hst) (Lib.hid hcl)⟩
    · obtain ⟨e, c', hp⟩ : ∃ e c', Nr.programs s.c at_ v = (e, c') := ⟨_, _, rfl⟩
      have e1 : Cf.pw s at_ v = (e, 3, { s with c := c', mode := 1 }) := by unfold Cf.pw; rw [if_pos hw, if_neg hl, hp]
      have e2 : Cf.prog1 { s with mode := 1 } at_ v = Drv.at_ { s with mode := 1 } ⟨3, true, at_, v⟩ ((3 : Nat) : Int) := by unfold Cf.prog1; rw [if_neg hl]; rfl
      rw [e2] at hb
      have h5 : e = 4 ∨ e = 0 ∨ (e = 5 ∧ c' = s.c) := by
        have : Nr.programs s.c at_ v = (Nr.ended s.c, Nr.program s.c at_ v) := if_pos hw
        rw [this] at hp
        have := (Prod.mk.inj hp).1
        rcases Cf.ended_04 s.c with h | h
        · exact .inl (this.symm.trans h)
        · exact .inr (.inl (this.symm.trans h))
      exact ⟨_, _, _, _, hb, e1, rfl, waits_job (L := 3) hc hs hok hw0 ⟨3, true, at_, v⟩ (by decide) (by decide) hv hp h5⟩
  · exact .inl ⟨_, hw, Cf.both_off hw, if_neg hw⟩
theorem erase_cases {s : Cf.Fl} (hc : Cf.Calm s) (hs : s.ok) (hok : s.c.ok) (b : Int) :
    (∃ e, ¬ e = 0 ∧ Cf.both s (b * 64) 32 208 = (e, s) ∧ Cf.ew s b = (e, 0, s)) ∨ ∃ s1 s2 k r, Cf.both s (b * 64) 32 208 = (0, s1) ∧ Cf.ew s b = (r, k, s2) ∧ s1.c = s.c ∧ Waits s s1 s2 k r := by
  by_cases hw : Cf.wrong s (b * 64) = 0
  · right
    have hw0 := Cf.wrong_0 hok hw
    have hb := Cf.both_eras hc hw
    rw [Cf.calm_w hc] at hb
    by_cases hl : s.locks (b * 64 / 64) = true
    · have e : Cf.ew s b = (6, 0, { s with mode := 1 }) := by unfold Cf.ew; rw [if_pos hw, if_pos hl]
      have e2 : Cf.eras1 { s with mode := 1 } (b * 64) 208 = { s with mode := 1, errs := bits .or .u32 s.errs 34 } := by unfold Cf.eras1; rw [if_pos (by decide), if_pos hl]; rfl
      rw [e2] at hb
      have hst : Cf.status ({ s with mode := 1, errs := bits .or .u32 s.errs 34 } : Cf.Fl) = 162 := by
        refine (Cf.status_none (s := { s with mode := 1, errs := bits .or .u32 s.errs 34 }) hc.job).trans ?_
        show bits .or .u32 (bits .or .u32 s.errs 34) 128 = 162
        rw [hc.errs]; decide
      have hcl := Cf.clears hc hw0 s.c ⟨rfl, rfl⟩ (bits .or .u32 s.errs 34)
      have hE : Eo (bits .or .u32 s.errs 34) := hc.eo.or (by decide)
      exact ⟨_, _, _, _, hb, e, rfl, waits_bad (v := 162) (Cf.setE_ok (b := 34) (Cf.calm_ok1 hs 1 (by decide) (by decide) s.c hc.job s.locks) (by decide) (by decide)) hE rfl rfl (.inr ⟨rfl, rfl⟩) (Lib.hid hst) (Lib.hid hcl)⟩
    · obtain ⟨e, c', hp⟩ : ∃ e c', Nr.erases s.c (b * 64 / 64) = (e, c') := ⟨_, _, rfl⟩
      have e1 : Cf.ew s b = (e, 20, { s with c := c', mode := 1 }) := by unfold Cf.ew; rw [if_pos hw, if_neg hl, hp]
      have e2 : Cf.eras1 { s with mode := 1 } (b * 64) 208 = Drv.at_ { s with mode := 1 } ⟨20, false, b * 64 / 64, 0⟩ ((20 : Nat) : Int) := by unfold Cf.eras1; rw [if_pos (by decide), if_neg hl]; rfl
      rw [e2] at hb
      have h5 : e = 4 ∨ e = 0 ∨ (e = 5 ∧ c' = s.c) := by
        have hw1 : Nr.wrong s.c (b * 64 / 64) (s.c.wear.length : Int) = 0 := by
          have ho := Nr.wrong_on hw
          obtain ⟨m, hm, hm2⟩ := Nr.wrong_zero hok hw
          have := hok.size
          unfold Nr.wrong
          rw [if_neg (by simp [ho]), if_neg (by omega)]
        unfold Nr.erases at hp
        rw [if_pos hw1] at hp
        split at hp
        · have := (Prod.mk.inj hp).1
          rcases Cf.ended_04 s.c with h | h
          · exact .inl (this.symm.trans h)
          · exact .inr (.inl (this.symm.trans h))
        · exact .inr (.inr ⟨(Prod.mk.inj hp).1.symm, (Prod.mk.inj hp).2.symm⟩)
      exact ⟨_, _, _, _, hb, e1, rfl, waits_job (L := 20) hc hs hok hw0 ⟨20, false, b * 64 / 64, 0⟩ (by decide) (by decide) ⟨Int.le_refl 0, by show (0 : Int) < 4294967296; decide⟩ hp h5⟩
  · exact .inl ⟨_, hw, Cf.both_off hw, if_neg hw⟩
theorem erase_x {w : World} {bw kw be ke : Nat} {s s' : Cf.Fl} {t b e k : Int} (hR : RAt w bw kw be ke s.c) (hc : Cf.Calm s) (hs : s.ok) (t0 : 0 ≤ t) (t1 : t ≤ 1000000000) (ha : -100000000000000 ≤ b) (ha' : b ≤ 100000000000000) (q : Hid (Cf.ew s b = (e, k, s'))) :
    Calls Try.prog 26 #[.agg (da bw kw be ke (rf s) t), .int .i64 b] w fun x w' => ∃ a ka b kb, x = .returned (.tuple #[.agg (da a ka b kb (rf s') (t + k)), .int .i64 e]) ∧ RPost w w' bw be a ka b kb s'.c := by
  rcases erase_cases hc hs hR.ok b with ⟨e1, he, hb, hp⟩ | ⟨s1, s2, k1, r, hb, hp, hc1, hw⟩
  · rw [q.out] at hp
    cases hp
    refine (eraseA (t := t) hR.ok hs hc.eo ha ha' he (Lib.hid hb)).mono ?_
    rintro x w' ⟨rfl, b⟩
    exact ⟨bw, kw, be, ke, by rw [show t + 0 = t by omega], RPost.same hR b⟩
  · rw [q.out] at hp
    cases hp
    exact eraseB hR hs hc.eo ha ha' (Lib.hid hb) (fun W R => hw W bw kw be ke t R t0 t1)
theorem lockOn_x {w : World} {bw kw be ke : Nat} {s s' : Cf.Fl} {t b e : Int} (hok : s.c.ok) (hc : Cf.Calm s) (hs : s.ok) (ha : -100000000000000 ≤ b) (ha' : b ≤ 100000000000000) (q : Hid (Cf.lw s b true = (e, s'))) :
    Calls Try.prog 28 #[.agg (da bw kw be ke (rf s) t), .int .i64 b, .bool true] w fun x w' => x = .returned (.tuple #[.agg (da bw kw be ke (rf s') t), .int .i64 e]) ∧ Below w.heap.size w w' := by
  have q' := q.out
  by_cases hw : Cf.wrong s (b * 64) = 0
  · have hb := Cf.both_lock hc (v := 1) hw
    rw [Cf.calm_w hc] at hb
    have e1 : Cf.lw s b true = (0, { s with mode := 1, locks := Cf.upd s.locks (b * 64 / 64) true }) := if_pos hw
    rw [e1] at q'
    cases q'
    have e2 : Cf.lock1 { s with mode := 1 } (b * 64) 1 = { s with mode := 1, locks := Cf.upd s.locks (b * 64 / 64) true } := by
      unfold Cf.lock1
      rw [if_pos (by decide)]
    rw [e2] at hb
    have hst : Cf.status ({ s with mode := 1, locks := Cf.upd s.locks (b * 64 / 64) true } : Cf.Fl) = 128 := by
      refine (Cf.status_none (s := { s with mode := 1, locks := Cf.upd s.locks (b * 64 / 64) true }) hc.job).trans ?_
      show bits .or .u32 s.errs 128 = 128
      rw [hc.errs]; decide
    exact lockOnB hok hs hc.eo ha ha' (Lib.hid hb) hc.eo (Lib.hid hst)
  · have e1 : Cf.lw s b true = (Cf.wrong s (b * 64), s) := if_neg hw
    rw [e1] at q'
    cases q'
    exact lockOnA hok hs hc.eo ha ha' hw (Lib.hid (Cf.both_off hw))
theorem lockOff_x {w : World} {bw kw be ke : Nat} {s s' : Cf.Fl} {t b e : Int} (hok : s.c.ok) (hc : Cf.Calm s) (hs : s.ok) (ha : -100000000000000 ≤ b) (ha' : b ≤ 100000000000000) (q : Hid (Cf.lw s b false = (e, s'))) :
    Calls Try.prog 28 #[.agg (da bw kw be ke (rf s) t), .int .i64 b, .bool false] w fun x w' => x = .returned (.tuple #[.agg (da bw kw be ke (rf s') t), .int .i64 e]) ∧ Below w.heap.size w w' := by
  have q' := q.out
  by_cases hw : Cf.wrong s (b * 64) = 0
  · have hb := Cf.both_lock hc (v := 208) hw
    rw [Cf.calm_w hc] at hb
    have e1 : Cf.lw s b false = (0, { s with mode := 1, locks := Cf.upd s.locks (b * 64 / 64) false }) := if_pos hw
    rw [e1] at q'
    cases q'
    have e2 : Cf.lock1 { s with mode := 1 } (b * 64) 208 = { s with mode := 1, locks := Cf.upd s.locks (b * 64 / 64) false } := by
      unfold Cf.lock1
      rw [if_neg (by decide), if_pos (by decide)]
    rw [e2] at hb
    have hst : Cf.status ({ s with mode := 1, locks := Cf.upd s.locks (b * 64 / 64) false } : Cf.Fl) = 128 := by
      refine (Cf.status_none (s := { s with mode := 1, locks := Cf.upd s.locks (b * 64 / 64) false }) hc.job).trans ?_
      show bits .or .u32 s.errs 128 = 128
      rw [hc.errs]; decide
    exact lockOffB hok hs hc.eo ha ha' (Lib.hid hb) hc.eo (Lib.hid hst)
  · have e1 : Cf.lw s b false = (Cf.wrong s (b * 64), s) := if_neg hw
    rw [e1] at q'
    cases q'
    exact lockOffA hok hs hc.eo ha ha' hw (Lib.hid (Cf.both_off hw))
end Rdl
end Go.Proofs.Ytfghlfolejpjjaa

/- The reference's driver: Program. -/
namespace Go.Proofs.Ytfghlfolejpjjaa
open Go.RowKit
set_option linter.unusedVariables false
set_option linter.unusedSimpArgs false
attribute [local go_sem] max2_int min2_int max_two min_two
namespace Rdl
open Rfl Rcfi Rnor
/-- The whole driver out of its box, as one operation of a region that draws. -/
theorem exec_d {o : Oper} {a : Act} {w : World} {g bw kw be ke : Nat} {F : RF} {t : Int} (x : Operand) (ho : o.op = .load 64 x) (hx : a.eval x = .pointer (some ⟨g, 0, none⟩)) (hb : Dbox w g bw kw be ke F t) : (execOp a.eval o).run Try.prog w = .ok (.value (.agg (da bw kw be ke F t))) w := by
  unfold execOp
  simp only [ho, hx, Instr.loadAt, Instr.sureAddr, Sem.run_bind, Sem.run_pure, Result.andThen_ok, run_loadVar_row w g _ _ _ _ _ hb underD rfl (sizeDa _ _ _ _ _ _)]
theorem wp_store_d {o : Oper} {a : Act} {w : World} {K : Act → World → Prop} {Q : Exit → Act → World → Prop} {bw kw be ke g : Nat} {F : RF} {t : Int} {Z : Array Value} (x y : Operand) (ho : o.op = .store 64 x y) (hx : a.eval x = .pointer (some ⟨g, 0, none⟩)) (hy : a.eval y = .agg (da bw kw be ke F t)) (hb : w.heap[g]? = some (.cells Z 64 (0, 0))) (hz : Z.size = 78)
    (h : ∀ w', Dbox w' g bw kw be ke F t → Keep (fun k => k = g) w w' → w'.heap.size = w.heap.size → K (a.put o.dst undef) w') : o.wp Try.prog a w K Q :=
  wp_store_row _ x y ho g _ hx hy _ _ hb (sizeDa _ _ _ _ _ _) (by rw [da_size, hz]) (da_one _ _ _ _ _ _) (h _ (setRow_heap w g _ _ _ _ hb) ⟨rfl, rfl, rfl, by simp, fun k hk hn => setRow_other _ _ _ _ hn⟩ (by simp))
set_option maxHeartbeats 8000000 in
set_option maxRecDepth 100000 in
theorem program_x {w : World} {bw kw be ke : Nat} {s s' : Cf.Fl} {t e k2 : Int} (hR : RAt w bw kw be ke s.c) (hc : Cf.Calm s) (hs : s.ok) (t0 : 0 ≤ t) (t1 : t ≤ 900000000) {at_ : Int} (ha : -10000000000000 ≤ at_) (ha' : at_ ≤ 10000000000000) {zs : List Int} {ad : Option Addr} {r off cap : Nat} (hl : zs.length ≤ 64) (hz : Hid (∀ i : Nat, 0 ≤ zs.getD i 0 ∧ zs.getD i 0 < 4294967296)) (hA : ∀ i, i < zs.length → ad = some ⟨r, off, none⟩) (hcell : ∀ i, i < zs.length → w.cell? ⟨r, off + i, none⟩ = some (.int .u32 (zs.getD i 0))) (q : Hid (Cf.pws s at_ zs = (e, k2, s'))) :
    Calls Try.prog 34 #[.agg (da bw kw be ke (rf s) t), .int .i64 at_, .slice ad zs.length cap] w fun x w' => ∃ a ka b kb, x = .returned (.tuple #[.agg (da a ka b kb (rf s') (t + k2)), .int .i64 e]) ∧ RPost w w' bw be a ka b kb s'.c := by
  have T0 := Run.start (s := s) hR t Try.zeroCells64
  have HC := Lib.hid hcell
  clear hcell
  have hl2 : (zs.length : Int) ≤ 64 := by omega
  go_enter Try.func34, Try.ntmps34
  go_upto_region 1 with (fail)
  generalize (w.alloc (.cells (da bw kw be ke (rf s) t) 64)).alloc (.cells Try.zeroCells64 64) = W at *
  go_wp2
  go_loopw [8] (fun i wr => ∃ (k : Nat) (sk : Cf.Fl) (KT : Int) (a ka b kb : Nat), k ≤ zs.length ∧ i = .int .i64 k ∧ Hid (Cf.pwN s at_ zs k = (0, KT, sk)) ∧ Run w wr bw be a ka b kb sk (t + KT) Try.zeroCells64) (fun i _ => zs.length - (intOf i).toNat)
  case atStart => exact ⟨0, s, 0, _, _, _, _, Nat.zero_le _, rfl, Lib.hid rfl, by rw [show t + 0 = t by omega]; exact T0⟩
  case round =>
    clear T0
    obtain ⟨k, sk, KT, a, ka, b, kb, hk, rfl, qk, TT⟩ := hrel
    have hKT : 0 ≤ KT ∧ KT ≤ 192 := by have := Cf.pwN_ticks s at_ zs k; rw [qk.out] at this; dsimp only at this; omega
    have hck : Cf.Calm sk := by have := Cf.pwN_calm hc at_ zs k; rw [qk.out] at this; exact this
    have oks : sk.ok := by have := Cf.pwN_ok hs hc at_ zs k; rw [qk.out] at this; exact this
    by_cases h3 : k < zs.length
    · have h4 : (k : Int) < (zs.length : Int) := by omega
      obtain rfl := hA k h3
      have y := Sl.below_cell TT.two.below (HC.out k h3)
      have hv := hz.out k
      have eos := hck.eo
      have hstep := Cf.pwN_step (s := s) (a := at_) (zs := zs) (k := k) (by rw [qk.out])
      rw [qk.out] at hstep
      dsimp only at hstep
      generalize zs.getD k 0 = z at y hv hstep
      have hcases := word_cases hck oks TT.rat.ok (at_ + k) z hv
      obtain ⟨e1, s1, q1⟩ : ∃ e1 s1, Hid (Cf.both sk (at_ + k) 64 z = (e1, s1)) := ⟨_, _, Lib.hid rfl⟩
      have hcases := Lib.hid hcases
      have hstep := Lib.hid hstep
      generalize htt : t + KT = tk at TT
      have ht0 : 0 ≤ tk := by omega
      have ht1 : tk ≤ 900000192 := by omega
      have HTT := Lib.hid htt
      clear htt
      go_wp2
      have PX := TT.box
      refine wp_region_noPanic ?_
      refine wp_region_held_drew (S := fun W => Dbox W w.heap.size a ka b kb (rf sk) tk ∧ W.cell? ⟨r, off + k, none⟩ = some (.int .u32 z)) (by kernel_rfl) ?_ (fun hHeld => ?_)
      · exact ⟨PX, y⟩
      refine wpAnyH_take (i := 0) (v := .agg (da a ka b kb (rf sk) tk)) rfl (by kernel_rfl) (by kernel_rfl) (by kernel_rfl) (fun _ _ _ h => h) (Or.inl ⟨by kernel_rfl, fun W hSw => exec_d _ rfl rfl hSw.1⟩) (by assumption) ?_
      (try simp only [Act.put, List.setIfInBounds_toArray, List.set_cons_zero, List.set_cons_succ])
      refine wpAnyH_take (i := 1) (v := ?_) rfl (by kernel_rfl) (by kernel_rfl) (by kernel_rfl) (fun _ _ _ h => h) (Or.inl ⟨by kernel_rfl, ?_⟩) (by assumption) ?_
      rotate_left
      · ((intro w hSw; (try dsimp only at hSw); go_simp) <;> with_reducible rfl)
      (try simp only [Act.put, List.setIfInBounds_toArray, List.set_cons_zero, List.set_cons_succ])
      refine wpAnyH_take (i := 2) (v := ?_) rfl (by kernel_rfl) (by kernel_rfl) (by kernel_rfl) (fun _ _ _ h => h) (Or.inl ⟨by kernel_rfl, ?_⟩) (by assumption) ?_
      rotate_left
      · ((intro w hSw; (try dsimp only at hSw); go_simp) <;> with_reducible rfl)
      (try simp only [Act.put, List.setIfInBounds_toArray, List.set_cons_zero, List.set_cons_succ])
      refine wpAnyH_take (i := 3) (v := ?_) rfl (by kernel_rfl) (by kernel_rfl) (by kernel_rfl) (fun _ _ _ h => h) (Or.inl ⟨by kernel_rfl, ?_⟩) (by assumption) ?_
      rotate_left
      · ((intro w hSw; (try dsimp only at hSw); go_simp) <;> with_reducible rfl)
      (try simp only [Act.put, List.setIfInBounds_toArray, List.set_cons_zero, List.set_cons_succ])
      rw [IntWalk.i64_in (at_ + (k : Int)) (by omega)]
      refine wpAnyH_take (i := 4) (v := ?_) rfl (by kernel_rfl) (by kernel_rfl) (by kernel_rfl) (fun _ _ _ h => h) (Or.inl ⟨by kernel_rfl, ?_⟩) (by assumption) ?_
      rotate_left
      · ((intro w hSw; (try dsimp only at hSw); go_simp) <;> with_reducible rfl)
      (try simp only [Act.put, List.setIfInBounds_toArray, List.set_cons_zero, List.set_cons_succ])
      refine wpAnyH_take (i := 5) (v := ?_) rfl (by kernel_rfl) (by kernel_rfl) (by kernel_rfl) (fun _ _ _ h => h) (Or.inl ⟨by kernel_rfl, ?_⟩) (by assumption) ?_
      rotate_left
      · ((intro w hSw; (try dsimp only at hSw); go_simp) <;> with_reducible rfl)
      (try simp only [Act.put, List.setIfInBounds_toArray, List.set_cons_zero, List.set_cons_succ])
      refine wpAnyH_take (i := 6) (v := ?_) rfl (by kernel_rfl) (by kernel_rfl) (by kernel_rfl) (fun _ _ _ h => h) (Or.inl ⟨by kernel_rfl, ?_⟩) (by assumption) ?_
      rotate_left
      · ((intro w hSw; (try dsimp only at hSw); go_simp) <;> with_reducible rfl)
      (try simp only [Act.put, List.setIfInBounds_toArray, List.set_cons_zero, List.set_cons_succ])
      refine wpAnyH_take (i := 7) (v := ?_) rfl (by kernel_rfl) (by kernel_rfl) (by kernel_rfl) (fun _ _ _ h => h) (Or.inl ⟨by kernel_rfl, ?_⟩) (by assumption) ?_
      rotate_left
      · ((intro w hSw; (try dsimp only at hSw); go_simp) <;> with_reducible rfl)
      (try simp only [Act.put, List.setIfInBounds_toArray, List.set_cons_zero, List.set_cons_succ])
      refine wpAnyH_ready (rs := [8, 13]) (by kernel_rfl) (by simp) ?_
      refine AllReadyH.cons rfl (fun K hK => ?_) (AllReadyH.cons rfl (fun K hK => ?_) AllReadyH.nil)
      focus
        have A0 : (wr.alloc (.cells #[.int .u32 64, .int .u32 z] 34)).drew.cell? ⟨wr.heap.size, 0, none⟩ = some (.int .u32 64) := World.cell?_alloc_mark wr #[.int .u32 64, .int .u32 z] 34 (0, 0) 0
        have A1 : (wr.alloc (.cells #[.int .u32 64, .int .u32 z] 34)).drew.cell? ⟨wr.heap.size, 1, none⟩ = some (.int .u32 z) := World.cell?_alloc_mark wr #[.int .u32 64, .int .u32 z] 34 (0, 0) 1
        replace TT := TT.then (below_al_drew wr (.cells #[.int .u32 64, .int .u32 z] 34))
        replace PX := TT.box
        replace y := Sl.below_cell (below_al_drew wr (.cells #[.int .u32 64, .int .u32 z] 34)) y
        go_simp
        generalize (wr.alloc (.cells #[.int .u32 64, .int .u32 z] 34)).drew = wA at *
        clear hHeld
        refine hK.out _ _ ?_ (fun hHeld => ?_)
        · exact ⟨PX, y⟩
        clear hK K
        (try simp only [Act.put, List.setIfInBounds_toArray, List.set_cons_zero, List.set_cons_succ])
        refine wpAnyH_ready (rs := [9, 13]) (by kernel_rfl) (by simp) ?_
        refine AllReadyH.cons rfl (fun K hK => ?_) (AllReadyH.cons rfl (fun K hK => ?_) AllReadyH.nil)
        focus
          go_simp
          (go_at_call 49; refine (write2_c TT.rat.ok oks eos (by decide) hv A0 A1 q1).mono ?_; rintro x w5 ⟨rfl, b5⟩; have PP := TT.then b5; have y5 := Sl.below_cell b5 y; clear TT y PX A0 A1 b5; have TT := PP; have y := y5; have PX := TT.box; clear PP y5)
          clear hHeld
          refine hK.out _ _ ?_ (fun hHeld => ?_)
          · exact ⟨PX, y⟩
          clear hK K
          (try simp only [Act.put, List.setIfInBounds_toArray, List.set_cons_zero, List.set_cons_succ])
          refine wpAnyH_take (i := 10) (v := ?_) rfl (by kernel_rfl) (by kernel_rfl) (by kernel_rfl) (fun _ _ _ h => h) (Or.inl ⟨by kernel_rfl, ?_⟩) (by assumption) ?_
          rotate_left
          · ((intro w hSw; (try dsimp only at hSw); go_simp) <;> with_reducible rfl)
          (try simp only [Act.put, List.setIfInBounds_toArray, List.set_cons_zero, List.set_cons_succ])
          refine wpAnyH_take (i := 11) (v := ?_) rfl (by kernel_rfl) (by kernel_rfl) (by kernel_rfl) (fun _ _ _ h => h) (Or.inl ⟨by kernel_rfl, ?_⟩) (by assumption) ?_
          rotate_left
          · ((intro w hSw; (try dsimp only at hSw); go_simp) <;> with_reducible rfl)
          (try simp only [Act.put, List.setIfInBounds_toArray, List.set_cons_zero, List.set_cons_succ])
          refine wpAnyH_take (i := 12) (v := ?_) rfl (by kernel_rfl) (by kernel_rfl) (by kernel_rfl) (fun _ _ _ h => h) (Or.inl ⟨by kernel_rfl, ?_⟩) (by assumption) ?_
          rotate_left
          · ((intro w hSw; (try dsimp only at hSw); go_simp) <;> with_reducible rfl)
          (try simp only [Act.put, List.setIfInBounds_toArray, List.set_cons_zero, List.set_cons_succ])
          refine wpAnyH_ready (rs := [13]) (by kernel_rfl) (by simp) ?_
          refine AllReadyH.cons rfl (fun K hK => ?_) AllReadyH.nil
          have HYR := World.block_lt_of_cell? _ _ y
          have hLT := TT.lt
          have HZ : (w5.alloc (.cells Try.zeroCells64 64)).heap[w5.heap.size]? = some (.cells Try.zeroCells64 64 (0, 0)) := heap_alloc_new w5 (.cells Try.zeroCells64 64)
          replace TT := TT.then (below_al w5 (.cells Try.zeroCells64 64))
          replace PX := TT.box
          replace y := Sl.below_cell (below_al w5 (.cells Try.zeroCells64 64)) y
          go_simp
          generalize (w5.alloc (.cells Try.zeroCells64 64)) = wX at *
          clear hHeld
          refine hK.out _ _ ?_ (fun hHeld => ?_)
          · exact ⟨PX, y⟩
          clear hK K
          (try simp only [Act.put, List.setIfInBounds_toArray, List.set_cons_zero, List.set_cons_succ])
          refine wpAnyH_ready (rs := [14]) (by kernel_rfl) (by simp) ?_
          refine AllReadyH.cons rfl (fun K hK => ?_) AllReadyH.nil
          refine wanted_do rfl ?_
          refine wp_store_d _ _ rfl rfl rfl HZ zero78 ?_
          intro w6 HB hk6 hs6
          replace TT := TT.away hLT HZ (by decide) (by decide) hk6
          replace PX := TT.box
          replace y := Keep.cell hk6 y (fun e => by dsimp only at e HYR; omega)
          clear hs6 hk6 HZ
          clear hHeld
          refine hK.out _ _ ?_ (fun hHeld => ?_)
          · exact ⟨PX, y⟩
          clear hK K
          (try simp only [Act.put, List.setIfInBounds_toArray, List.set_cons_zero, List.set_cons_succ])
          refine wpAnyH_take (i := 15) (v := ?_) rfl (by kernel_rfl) (by kernel_rfl) (by kernel_rfl) (fun _ _ _ h => h) (Or.inl ⟨by kernel_rfl, ?_⟩) (by assumption) ?_
          rotate_left
          · ((intro w hSw; (try dsimp only at hSw); go_simp) <;> with_reducible rfl)
          (try simp only [Act.put, List.setIfInBounds_toArray, List.set_cons_zero, List.set_cons_succ])
          refine wpAnyH_done (by kernel_rfl) ?_ _
          refine NoPanic.normal ?_
        rotate_left
        focus
          have HYR := World.block_lt_of_cell? _ _ y
          have hLT := TT.lt
          have HZ : (wA.alloc (.cells Try.zeroCells64 64)).heap[wA.heap.size]? = some (.cells Try.zeroCells64 64 (0, 0)) := heap_alloc_new wA (.cells Try.zeroCells64 64)
          replace A0 := Sl.below_cell (below_al wA (.cells Try.zeroCells64 64)) A0
          replace A1 := Sl.below_cell (below_al wA (.cells Try.zeroCells64 64)) A1
          replace TT := TT.then (below_al wA (.cells Try.zeroCells64 64))
          replace PX := TT.box
          replace y := Sl.below_cell (below_al wA (.cells Try.zeroCells64 64)) y
          go_simp
          generalize (wA.alloc (.cells Try.zeroCells64 64)) = wX at *
          clear hHeld
          refine hK.out _ _ ?_ (fun hHeld => ?_)
          · exact ⟨PX, y⟩
          clear hK K
          (try simp only [Act.put, List.setIfInBounds_toArray, List.set_cons_zero, List.set_cons_succ])
          refine wpAnyH_ready (rs := [9]) (by kernel_rfl) (by simp) ?_
          refine AllReadyH.cons rfl (fun K hK => ?_) AllReadyH.nil
          go_simp
          (go_at_call 49; refine (write2_c TT.rat.ok oks eos (by decide) hv A0 A1 q1).mono ?_; rintro x w5 ⟨rfl, b5⟩; have PP := TT.then b5; have y5 := Sl.below_cell b5 y; have HZ5 := (b5.block _ (Array.getElem?_eq_some_iff.1 HZ).1).trans HZ; clear HZ; have HZ := HZ5; clear HZ5; clear TT y PX A0 A1 b5; have TT := PP; have y := y5; have PX := TT.box; clear PP y5)
          clear hHeld
          refine hK.out _ _ ?_ (fun hHeld => ?_)
          · exact ⟨PX, y⟩
          clear hK K
          (try simp only [Act.put, List.setIfInBounds_toArray, List.set_cons_zero, List.set_cons_succ])
          refine wpAnyH_take (i := 10) (v := ?_) rfl (by kernel_rfl) (by kernel_rfl) (by kernel_rfl) (fun _ _ _ h => h) (Or.inl ⟨by kernel_rfl, ?_⟩) (by assumption) ?_
          rotate_left
          · ((intro w hSw; (try dsimp only at hSw); go_simp) <;> with_reducible rfl)
          (try simp only [Act.put, List.setIfInBounds_toArray, List.set_cons_zero, List.set_cons_succ])
          refine wpAnyH_take (i := 11) (v := ?_) rfl (by kernel_rfl) (by kernel_rfl) (by kernel_rfl) (fun _ _ _ h => h) (Or.inl ⟨by kernel_rfl, ?_⟩) (by assumption) ?_
          rotate_left
          · ((intro w hSw; (try dsimp only at hSw); go_simp) <;> with_reducible rfl)
          (try simp only [Act.put, List.setIfInBounds_toArray, List.set_cons_zero, List.set_cons_succ])
          refine wpAnyH_take (i := 12) (v := ?_) rfl (by kernel_rfl) (by kernel_rfl) (by kernel_rfl) (fun _ _ _ h => h) (Or.inl ⟨by kernel_rfl, ?_⟩) (by assumption) ?_
          rotate_left
          · ((intro w hSw; (try dsimp only at hSw); go_simp) <;> with_reducible rfl)
          (try simp only [Act.put, List.setIfInBounds_toArray, List.set_cons_zero, List.set_cons_succ])
          refine wpAnyH_ready (rs := [14]) (by kernel_rfl) (by simp) ?_
          refine AllReadyH.cons rfl (fun K hK => ?_) AllReadyH.nil
          refine wanted_do rfl ?_
          refine wp_store_d _ _ rfl rfl rfl HZ zero78 ?_
          intro w6 HB hk6 hs6
          replace TT := TT.away hLT HZ (by decide) (by decide) hk6
          replace PX := TT.box
          replace y := Keep.cell hk6 y (fun e => by dsimp only at e HYR; omega)
          clear hs6 hk6 HZ
          clear hHeld
          refine hK.out _ _ ?_ (fun hHeld => ?_)
          · exact ⟨PX, y⟩
          clear hK K
          (try simp only [Act.put, List.setIfInBounds_toArray, List.set_cons_zero, List.set_cons_succ])
          refine wpAnyH_take (i := 15) (v := ?_) rfl (by kernel_rfl) (by kernel_rfl) (by kernel_rfl) (fun _ _ _ h => h) (Or.inl ⟨by kernel_rfl, ?_⟩) (by assumption) ?_
          rotate_left
          · ((intro w hSw; (try dsimp only at hSw); go_simp) <;> with_reducible rfl)
          (try simp only [Act.put, List.setIfInBounds_toArray, List.set_cons_zero, List.set_cons_succ])
          refine wpAnyH_done (by kernel_rfl) ?_ _
          refine NoPanic.normal ?_
      rotate_left 2
      focus
        have HYR := World.block_lt_of_cell? _ _ y
        have hLT := TT.lt
        have HZ : (wr.alloc (.cells Try.zeroCells64 64)).drew.heap[wr.heap.size]? = some (.cells Try.zeroCells64 64 (0, 0)) := heap_alloc_new wr (.cells Try.zeroCells64 64)
        replace TT := TT.then (below_al_drew wr (.cells Try.zeroCells64 64))
        replace PX := TT.box
        replace y := Sl.below_cell (below_al_drew wr (.cells Try.zeroCells64 64)) y
        go_simp
        generalize (wr.alloc (.cells Try.zeroCells64 64)).drew = wX at *
        clear hHeld
        refine hK.out _ _ ?_ (fun hHeld => ?_)
        · exact ⟨PX, y⟩
        clear hK K
        (try simp only [Act.put, List.setIfInBounds_toArray, List.set_cons_zero, List.set_cons_succ])
        refine wpAnyH_ready (rs := [8]) (by kernel_rfl) (by simp) ?_
        refine AllReadyH.cons rfl (fun K hK => ?_) AllReadyH.nil
        have A0 : (wX.alloc (.cells #[.int .u32 64, .int .u32 z] 34)).cell? ⟨wX.heap.size, 0, none⟩ = some (.int .u32 64) := World.cell?_alloc_mark wX #[.int .u32 64, .int .u32 z] 34 (0, 0) 0
        have A1 : (wX.alloc (.cells #[.int .u32 64, .int .u32 z] 34)).cell? ⟨wX.heap.size, 1, none⟩ = some (.int .u32 z) := World.cell?_alloc_mark wX #[.int .u32 64, .int .u32 z] 34 (0, 0) 1
        replace HZ := (Below.block (below_al wX (.cells #[.int .u32 64, .int .u32 z] 34)) _ (Array.getElem?_eq_some_iff.1 HZ).1).trans HZ
        replace TT := TT.then (below_al wX (.cells #[.int .u32 64, .int .u32 z] 34))
        replace PX := TT.box
        replace y := Sl.below_cell (below_al wX (.cells #[.int .u32 64, .int .u32 z] 34)) y
        go_simp
        generalize (wX.alloc (.cells #[.int .u32 64, .int .u32 z] 34)) = wA at *
        clear hHeld
        refine hK.out _ _ ?_ (fun hHeld => ?_)
        · exact ⟨PX, y⟩
        clear hK K
        (try simp only [Act.put, List.setIfInBounds_toArray, List.set_cons_zero, List.set_cons_succ])
        refine wpAnyH_ready (rs := [9]) (by kernel_rfl) (by simp) ?_
        refine AllReadyH.cons rfl (fun K hK => ?_) AllReadyH.nil
        go_simp
        (go_at_call 49; refine (write2_c TT.rat.ok oks eos (by decide) hv A0 A1 q1).mono ?_; rintro x w5 ⟨rfl, b5⟩; have PP := TT.then b5; have y5 := Sl.below_cell b5 y; have HZ5 := (b5.block _ (Array.getElem?_eq_some_iff.1 HZ).1).trans HZ; clear HZ; have HZ := HZ5; clear HZ5; clear TT y PX A0 A1 b5; have TT := PP; have y := y5; have PX := TT.box; clear PP y5)
        clear hHeld
        refine hK.out _ _ ?_ (fun hHeld => ?_)
        · exact ⟨PX, y⟩
        clear hK K
        (try simp only [Act.put, List.setIfInBounds_toArray, List.set_cons_zero, List.set_cons_succ])
        refine wpAnyH_take (i := 10) (v := ?_) rfl (by kernel_rfl) (by kernel_rfl) (by kernel_rfl) (fun _ _ _ h => h) (Or.inl ⟨by kernel_rfl, ?_⟩) (by assumption) ?_
        rotate_left
        · ((intro w hSw; (try dsimp only at hSw); go_simp) <;> with_reducible rfl)
        (try simp only [Act.put, List.setIfInBounds_toArray, List.set_cons_zero, List.set_cons_succ])
        refine wpAnyH_take (i := 11) (v := ?_) rfl (by kernel_rfl) (by kernel_rfl) (by kernel_rfl) (fun _ _ _ h => h) (Or.inl ⟨by kernel_rfl, ?_⟩) (by assumption) ?_
        rotate_left
        · ((intro w hSw; (try dsimp only at hSw); go_simp) <;> with_reducible rfl)
        (try simp only [Act.put, List.setIfInBounds_toArray, List.set_cons_zero, List.set_cons_succ])
        refine wpAnyH_take (i := 12) (v := ?_) rfl (by kernel_rfl) (by kernel_rfl) (by kernel_rfl) (fun _ _ _ h => h) (Or.inl ⟨by kernel_rfl, ?_⟩) (by assumption) ?_
        rotate_left
        · ((intro w hSw; (try dsimp only at hSw); go_simp) <;> with_reducible rfl)
        (try simp only [Act.put, List.setIfInBounds_toArray, List.set_cons_zero, List.set_cons_succ])
        refine wpAnyH_ready (rs := [14]) (by kernel_rfl) (by simp) ?_
        refine AllReadyH.cons rfl (fun K hK => ?_) AllReadyH.nil
        refine wanted_do rfl ?_
        refine wp_store_d _ _ rfl rfl rfl HZ zero78 ?_
        intro w6 HB hk6 hs6
        replace TT := TT.away hLT HZ (by decide) (by decide) hk6
        replace PX := TT.box
        replace y := Keep.cell hk6 y (fun e => by dsimp only at e HYR; omega)
        clear hs6 hk6 HZ
        clear hHeld
        refine hK.out _ _ ?_ (fun hHeld => ?_)
        · exact ⟨PX, y⟩
        clear hK K
        (try simp only [Act.put, List.setIfInBounds_toArray, List.set_cons_zero, List.set_cons_succ])
        refine wpAnyH_take (i := 15) (v := ?_) rfl (by kernel_rfl) (by kernel_rfl) (by kernel_rfl) (fun _ _ _ h => h) (Or.inl ⟨by kernel_rfl, ?_⟩) (by assumption) ?_
        rotate_left
        · ((intro w hSw; (try dsimp only at hSw); go_simp) <;> with_reducible rfl)
        (try simp only [Act.put, List.setIfInBounds_toArray, List.set_cons_zero, List.set_cons_succ])
        refine wpAnyH_done (by kernel_rfl) ?_ _
        refine NoPanic.normal ?_
      all_goals
        clear PX y hHeld
        rcases hcases.out with ⟨e0, he, hb, hp⟩ | ⟨s3, s2, kk, r1, hb, hp, hc1, hW⟩
        · rw [q1.out] at hb
          cases hb
          rw [hp] at hstep
          have E := hstep.out
          dsimp only at E
          have E : Cf.pws s at_ zs = (e1, KT + 0, sk) := by
            unfold Cf.pws
            rw [show zs.length = (k + 1) + (zs.length - (k + 1)) by omega, Cf.pwN_stop (by rw [E]; exact he), E]
          rw [q.out] at E
          cases E
          have hb1 : (e != 0) = true := by simpa using he
          have hb2 : (e == 0) = false := by simpa using he
          clear he hstep hcases hp q1
          go_wp2_with (first | (refine load_d rfl _ rfl rfl HB ?_) | (refine store_d rfl _ _ rfl rfl rfl TT.res zero78 ?_; intro wE hbE hkE hsE))
          refine bodyPost_ret (retD2 rfl _ _ (w.heap.size + 1) _ rfl rfl hbE) rfl ⟨_, _, _, _, ?_, TT.ends hkE⟩
          first
          | rw [show t + (KT + 0) = tk by have := HTT.out; omega]
          | rw [show t + KT = tk by have := HTT.out; omega]
          rfl
        · rw [q1.out] at hb
          cases hb
          rw [hp] at hstep
          have E := Lib.hid hstep.out
          have HW := fun W R => hW W a ka b kb tk R ht0 (by omega)
          clear hstep hcases hp q1 hW
          by_cases hr1 : r1 = 0
          · subst hr1
            go_wp2_with (first | (refine load_d rfl _ rfl rfl HB ?_) | (go_at_call 50; refine (HW _ TT.rat).mono ?_; rintro x w7 ⟨a7, ka7, b7, kb7, rfl, hp7⟩; have M7 := TT.turn hp7; have l7 := M7.lt; have HY := heap_alloc_new w7 (.cells Try.zeroCells64 64); have M8 := M7.then (below_al w7 (.cells Try.zeroCells64 64)); clear TT HB M7 hp7) | (refine store_d rfl _ _ rfl rfl rfl HY zero78 ?_; intro w9 hb9 hk9 hs9; have M9 := M8.away l7 HY (by decide) (by decide) hk9; clear M8 HY hk9 hs9 l7) | (refine load_d rfl _ rfl rfl hb9 ?_) | (refine store_d rfl _ _ rfl rfl rfl M9.two.box (da_size _ _ _ _ _ _) ?_; intro wA hbA hkA hsA; have TA := M9.laid hbA hkA; clear M9 hb9 hbA hkA hsA))
            go_roundw
            case rel => exact ⟨k + 1, s2, KT + kk, _, _, _, _, by omega, by go_num, E, by
              rw [show t + (KT + kk) = tk + kk by have := HTT.out; omega]
              exact TA⟩
            case measure => simp [intOf]; omega
          · have E2 : Cf.pws s at_ zs = (r1, KT + kk, s2) := by
              unfold Cf.pws
              rw [show zs.length = (k + 1) + (zs.length - (k + 1)) by omega, Cf.pwN_stop (by rw [E.out]; exact hr1), E.out]
            rw [q.out] at E2
            cases E2
            have hb1 : (e != 0) = true := by simpa using hr1
            have hb2 : (e == 0) = false := by simpa using hr1
            clear hr1
            go_wp2_with (first | (refine load_d rfl _ rfl rfl HB ?_) | (go_at_call 50; refine (HW _ TT.rat).mono ?_; rintro x w7 ⟨a7, ka7, b7, kb7, rfl, hp7⟩; have M7 := TT.turn hp7; have l7 := M7.lt; have HY := heap_alloc_new w7 (.cells Try.zeroCells64 64); have M8 := M7.then (below_al w7 (.cells Try.zeroCells64 64)); clear TT HB M7 hp7) | (refine store_d rfl _ _ rfl rfl rfl HY zero78 ?_; intro w9 hb9 hk9 hs9; have M9 := M8.away l7 HY (by decide) (by decide) hk9; clear M8 HY hk9 hs9 l7) | (refine load_d rfl _ rfl rfl hb9 ?_) | (refine store_d rfl _ _ rfl rfl rfl M9.two.box (da_size _ _ _ _ _ _) ?_; intro wA hbA hkA hsA; have TA := M9.laid hbA hkA; clear M9 hb9 hbA hkA hsA) | (refine load_d rfl _ rfl rfl TA.box ?_) | (refine store_d rfl _ _ rfl rfl rfl TA.res zero78 ?_; intro wE hbE hkE hsE))
            refine bodyPost_ret (retD2 rfl _ _ (w.heap.size + 1) _ rfl rfl hbE) rfl ⟨_, _, _, _, ?_, TA.ends hkE⟩
            rw [show t + (KT + kk) = tk + kk by have := HTT.out; omega]
            rfl
    · obtain rfl : k = zs.length := by omega
      have E := q.out
      unfold Cf.pws at E
      rw [qk.out] at E
      cases E
      go_wp2_with (first | (refine load_d rfl _ rfl rfl TT.box ?_) | (refine store_d rfl _ _ rfl rfl rfl TT.res zero78 ?_; intro wE hbE hkE hsE))
      exact bodyPost_ret (retD2 rfl _ _ (w.heap.size + 1) _ rfl rfl hbE) rfl ⟨_, _, _, _, rfl, TT.ends hkE⟩
end Rdl
end Go.Proofs.Ytfghlfolejpjjaa

/- The reference's driver: Read. -/
namespace Go.Proofs.Ytfghlfolejpjjaa
open Go.RowKit
set_option linter.unusedVariables false
set_option linter.unusedSimpArgs false
attribute [local go_sem] max2_int min2_int max_two min_two
namespace Rdl
open Rfl Rcfi Rnor
theorem retD3 {fn : Func} {p u v : Tmp} (h : fn.results = #[.cell p 64, .tmp u, .tmp v]) (tmps : Array Value) (w : World) (g : Nat) (x y : Value) {bw kw be ke : Nat} {F : RF} {t : Int} (hp : tmps.getD p undef = .pointer (some ⟨g, 0, none⟩)) (hx : tmps.getD u undef = x) (hy : tmps.getD v undef = y) (hg : Dbox w g bw kw be ke F t) :
    (results fn tmps).run Try.prog w = .ok (.tuple #[.agg (da bw kw be ke F t), x, y]) w := by
  have hp' : tmps[p]?.getD undef = .pointer (some ⟨g, 0, none⟩) := by simpa using hp
  have hx' : tmps[u]?.getD undef = x := by simpa using hx
  have hy' : tmps[v]?.getD undef = y := by simpa using hy
  have hr := run_loadVar_row (P := Try.prog) w g 64 64 _ (0, 0) _ hg underD rfl (sizeDa bw kw be ke F t)
  simp [results, h, hp', hx', hy', asAddr, hr]
theorem own_below {B : Nat} {e : TypeId} {k : Nat} {v : Value} {n : Nat} {xs : List Value} {w w' : World} (h : w.ownsRow B e k v n xs) (hb : Below w.heap.size w w') : w'.ownsRow B e k v n xs := by
  obtain ⟨h1, h2⟩ := h
  refine ⟨h1, h2.elim .inl fun ⟨g, cap, cur, e1, e2, e3, e4⟩ => .inr ⟨g, cap, cur, e1, e2, (hb.block _ (Array.getElem?_eq_some_iff.1 e3).1).trans e3, e4⟩⟩
theorem TwoD.thenB {w W W' : World} {bw kw be ke : Nat} {F : RF} {t : Int} {Z : Array Value} (T : TwoD w W bw kw be ke F t Z) (b : Below (w.heap.size + 2) W W') : TwoD w W' bw kw be ke F t Z :=
  ⟨T.box.of (b.block _ (by omega)), (b.block _ (by omega)).trans T.res, T.below.trans ⟨b.os, b.tape, b.output, b.size, fun k hk => b.block k (by omega)⟩⟩
theorem take_snoc (zs : List Int) {k : Nat} (h : k < zs.length) : zs.take k ++ [zs.getD k 0] = zs.take (k + 1) := by
  rw [List.take_add_one, List.getD, List.getElem?_eq_getElem h]
  rfl
set_option maxHeartbeats 1000000 in
set_option maxRecDepth 100000 in
theorem read_arg {w : World} {bw kw be ke : Nat} {s : Cf.Fl} {t at_ many : Int} (hm : many < 0 ∨ (0 ≤ many ∧ 64 < many)) (hm2 : -9223372036854775808 ≤ many ∧ many ≤ 9223372036854775807) :
    Calls Try.prog 27 #[.agg (da bw kw be ke (rf s) t), .int .i64 at_, .int .i64 many] w fun x w' => x = .returned (.tuple #[.agg (da bw kw be ke (rf s) t), .slice none 0 0, .int .i64 2]) ∧ Below w.heap.size w w' := by
  rcases hm with hm | ⟨m0, m1⟩
  all_goals
    have T0 := TwoD.start w bw kw be ke (rf s) t Try.zeroCells64
    go_enter Try.func27, Try.ntmps27
    go_upto_region 1 with (fail)
    generalize (w.alloc (.cells (da bw kw be ke (rf s) t) 64)).alloc (.cells Try.zeroCells64 64) = W at *
    go_wp2_with (first | (refine load_d rfl _ rfl rfl T0.box ?_) | (refine store_d rfl _ _ rfl rfl rfl T0.res zero78 ?_; intro wE hbE hkE hsE))
    exact bodyPost_ret (retD3 rfl _ _ (w.heap.size + 1) _ _ rfl rfl rfl hbE) rfl ⟨rfl, below_row T0.below hkE (Nat.le_succ _)⟩
set_option maxHeartbeats 1000000 in
set_option maxRecDepth 100000 in
theorem read_zero {w : World} {bw kw be ke : Nat} {s : Cf.Fl} {t at_ : Int} :
    Calls Try.prog 27 #[.agg (da bw kw be ke (rf s) t), .int .i64 at_, .int .i64 0] w fun x w' => x = .returned (.tuple #[.agg (da bw kw be ke (rf s) t), .slice none 0 0, .int .i64 0]) ∧ Below w.heap.size w w' := by
  have T0 := TwoD.start w bw kw be ke (rf s) t Try.zeroCells64
  go_enter Try.func27, Try.ntmps27
  go_upto_region 1 with (fail)
  generalize (w.alloc (.cells (da bw kw be ke (rf s) t) 64)).alloc (.cells Try.zeroCells64 64) = W at *
  go_wp2_with (first | (refine load_d rfl _ rfl rfl T0.box ?_) | (refine store_d rfl _ _ rfl rfl rfl T0.res zero78 ?_; intro wE hbE hkE hsE))
  exact bodyPost_ret (retD3 rfl _ _ (w.heap.size + 1) _ _ rfl rfl rfl hbE) rfl ⟨rfl, below_row T0.below hkE (Nat.le_succ _)⟩
set_option maxHeartbeats 1000000 in
set_option maxRecDepth 100000 in
theorem read_off {w : World} {bw kw be ke : Nat} {s s' : Cf.Fl} {t at_ e : Int} {n : Nat} (hok : s.c.ok) (hs : s.ok) (h : Eo s.errs) (n1 : 1 ≤ n) (n2 : n ≤ 64) (he : ¬ e = 0) (q : Hid (Cf.write s at_ 255 = (e, s'))) :
    Calls Try.prog 27 #[.agg (da bw kw be ke (rf s) t), .int .i64 at_, .int .i64 n] w fun x w' => x = .returned (.tuple #[.agg (da bw kw be ke (rf s') t), .slice none 0 0, .int .i64 e]) ∧ Below w.heap.size w w' := by
  have m1 : (1 : Int) ≤ n := by omega
  have m2 : (n : Int) ≤ 64 := by omega
  have hb1 : (e != 0) = true := by simpa using he
  have hb2 : (e == 0) = false := by simpa using he
  clear he
  have T0 := TwoD.start w bw kw be ke (rf s) t Try.zeroCells64
  go_enter Try.func27, Try.ntmps27
  go_upto_region 1 with (fail)
  generalize (w.alloc (.cells (da bw kw be ke (rf s) t) 64)).alloc (.cells Try.zeroCells64 64) = W at *
  have TA := T0.then (below_al W (.cells #[.int .u32 255] 34))
  have A0 := World.cell?_alloc_mark W #[.int .u32 255] 34 (0, 0) 0
  go_wp2_with (first | (refine load_d rfl _ rfl rfl T0.box ?_) | (go_at_call 49; refine (write1_c hok hs h (by decide) A0 q).mono ?_; rintro x w2 ⟨rfl, b2⟩; have T2 := TA.then b2; clear TA T0 A0 b2) | (refine store_d rfl _ _ rfl rfl rfl T2.box (da_size _ _ _ _ _ _) ?_; intro w3 hb3 hk3 hs3; have T3 := T2.row hb3 hk3; clear T2 hb3 hk3 hs3) | (refine load_d rfl _ rfl rfl T3.box ?_) | (refine store_d rfl _ _ rfl rfl rfl T3.res zero78 ?_; intro wE hbE hkE hsE))
  exact bodyPost_ret (retD3 rfl _ _ (w.heap.size + 1) _ _ rfl rfl rfl hbE) rfl ⟨rfl, below_row T3.below hkE (Nat.le_succ _)⟩
set_option maxHeartbeats 4000000 in
set_option maxRecDepth 100000 in
/-- The words up to a place; there an error, or the end. -/
theorem read_on {w : World} {bw kw be ke : Nat} {s s0 : Cf.Fl} {t at_ f v : Int} {n m : Nat} {zs : List Int} (hR : RAt w bw kw be ke s.c) (hs : s.ok) (h : Eo s.errs) (n1 : 1 ≤ n) (n2 : n ≤ 64) (ha : -10000000000000 ≤ at_ ∧ at_ ≤ 10000000000000) (hm : m ≤ n) (hl : zs.length = m) (q : Hid (Cf.write s at_ 255 = (0, s0))) (qr : Hid (∀ i : Nat, i < m → Cf.read s0 (at_ + i) = (zs.getD i 0, 0))) (qe : Hid (m < n → Cf.read s0 (at_ + m) = (v, f) ∧ ¬ f = 0)) :
    Calls Try.prog 27 #[.agg (da bw kw be ke (rf s) t), .int .i64 at_, .int .i64 n] w fun x w' => ((m < n ∧ x = .returned (.tuple #[.agg (da bw kw be ke (rf s0) t), .slice none 0 0, .int .i64 f])) ∨ (m = n ∧ ∃ r c, x = .returned (.tuple #[.agg (da bw kw be ke (rf s0) t), .slice (some ⟨r, 0, none⟩) n c, .int .i64 0]) ∧ w.heap.size ≤ r ∧ Row w' r zs)) ∧ Below w.heap.size w w' := by
  have m1 : (1 : Int) ≤ n := by omega
  have m2 : (n : Int) ≤ 64 := by omega
  have hcc : s0.c = s.c := by have := Rfl.write_c s at_ 255; rw [q.out] at this; exact this
  have hs0 : s0.ok := by have := Cf.write_ok hs at_ (v := 255) (by decide); rw [q.out] at this; exact this
  have h0 : Eo s0.errs := by have := write_eo h at_ 255; rw [q.out] at this; exact this
  have hok := hR.ok
  have hR0 : Hid (RAt w bw kw be ke s0.c) := Lib.hid (by rw [hcc]; exact hR)
  have ha1 := ha.1
  have ha2 := ha.2
  have T0 := TwoD.start w bw kw be ke (rf s) t Try.zeroCells64
  go_enter Try.func27, Try.ntmps27
  go_upto_region 1 with (fail)
  generalize (w.alloc (.cells (da bw kw be ke (rf s) t) 64)).alloc (.cells Try.zeroCells64 64) = W at *
  have TA := T0.then (below_al W (.cells #[.int .u32 255] 34))
  have A0 := World.cell?_alloc_mark W #[.int .u32 255] 34 (0, 0) 0
  go_wp2_with (first | (refine load_d rfl _ rfl rfl T0.box ?_) | (go_at_call 49; refine (write1_c hok hs h (by decide) A0 q).mono ?_; rintro x w2 ⟨rfl, b2⟩; have T2 := TA.then b2; clear TA T0 A0 b2) | (refine store_d rfl _ _ rfl rfl rfl T2.box (da_size _ _ _ _ _ _) ?_; intro w3 hb3 hk3 hs3; have T3 := T2.row hb3 hk3; clear T2 hb3 hk3 hs3))
  go_loopw [10, 11] (fun u i wr => ∃ k : Nat, k ≤ m ∧ i = .int .i64 k ∧ TwoD w wr bw kw be ke (rf s0) t Try.zeroCells64 ∧ wr.ownsRow (w.heap.size + 2) 34 1 u k ((zs.take k).map (Value.int .u32))) (fun _ i _ => n - (intOf i).toNat)
  case atStart => exact ⟨0, Nat.zero_le _, rfl, T3, World.ownsRow_nil _ _ _ _⟩
  case round =>
    clear T3
    rename_i u wr _
    obtain ⟨k, hk, rfl, T, hO⟩ := hrel
    have l0 : w.heap.size + 1 < wr.heap.size := (Array.getElem?_eq_some_iff.1 T.res).1
    by_cases h3 : k < n
    · have h4 : (k : Int) < (n : Int) := by omega
      by_cases h5 : k < m
      · have qk := Lib.hid (qr.out k h5)
        have HZ := Lib.hid (take_snoc zs (k := k) (by omega))
        generalize zs.getD k 0 = z at qk HZ
        go_wp2_with (first | (refine load_df rfl _ rfl rfl T.box ?_) | (go_at_call 51; refine (read_x (hR0.out.below T.below) hs0 h0 qk).mono ?_; rintro x w4 ⟨rfl, b4⟩; have T4 := T.then b4; have O4 := own_below hO b4; have l4 : w.heap.size + 2 ≤ w4.heap.size := Nat.le_trans l0 b4.size; clear T hO b4) | (at_builtin; refine append_r (by go_simp) _ _ rfl (w.heap.size + 2) _ k (zs.take k) rfl (O4.alloc _) (b := w4.heap.size) (off := 0) (m := 1) (zs := [z]) rfl rfl (one_cell w4 z) (by omega) (by simp; omega) ?_; intro v1 w5 o5 g5; rw [HZ.out] at o5; have B5 := own_grown (B := w.heap.size + 2) ((Below.refl _ w4).alloc l4 _) (by simp; omega) (O4.alloc _) g5; have T5 := T4.thenB B5; clear g5 O4 T4 B5))
        go_roundw
        case rel => exact ⟨k + 1, by omega, by go_num, T5, o5⟩
        case measure => simp [intOf]; omega
      · obtain rfl : k = m := by omega
        have qe' := qe.out h3
        have qk := Lib.hid qe'.1
        have hb1 : (f != 0) = true := by simpa using qe'.2
        have hb2 : (f == 0) = false := by simpa using qe'.2
        clear qe'
        go_wp2_with (first | (refine load_df rfl _ rfl rfl T.box ?_) | (go_at_call 51; refine (read_x (hR0.out.below T.below) hs0 h0 qk).mono ?_; rintro x w4 ⟨rfl, b4⟩; have T4 := T.then b4; clear T hO b4) | (refine load_d rfl _ rfl rfl T4.box ?_) | (refine store_d rfl _ _ rfl rfl rfl T4.res zero78 ?_; intro wE hbE hkE hsE))
        exact bodyPost_ret (retD3 rfl _ _ (w.heap.size + 1) _ _ rfl rfl rfl hbE) rfl ⟨.inl ⟨h3, rfl⟩, below_row T4.below hkE (Nat.le_succ _)⟩
    · obtain rfl : k = n := by omega
      obtain rfl : k = m := by omega
      have h4 : (k : Int) ≤ (k : Int) := Int.le_refl _
      rw [List.take_of_length_le (by omega)] at hO
      obtain ⟨a, kap, rfl, p1, p2, p3, p4⟩ := row_own hO (by omega)
      clear hO
      go_wp2_with (first | (refine load_d rfl _ rfl rfl T.box ?_) | (refine store_d rfl _ _ rfl rfl rfl T.res zero78 ?_; intro wE hbE hkE hsE))
      exact bodyPost_ret (retD3 rfl _ _ (w.heap.size + 1) _ _ rfl rfl rfl hbE) rfl ⟨⟨a, ⟨kap, rfl⟩, by omega, p4.keep hkE (by omega)⟩, below_row T.below hkE (Nat.le_succ _)⟩
end Rdl
end Go.Proofs.Ytfghlfolejpjjaa
