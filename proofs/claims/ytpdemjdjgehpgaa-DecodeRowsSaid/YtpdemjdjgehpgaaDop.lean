/- Contract of form.op. -/
import Derived.Test.YtpdemjdjgehpgaaDmap
namespace Go.Proofs.Ytpdemjdjgehpgaa
open Go.RowKit Dc Go.Maps
set_option linter.unusedVariables false
namespace Dec
theorem sk_dd : Lit.sameKey kd kd = true := by kernel_rfl
theorem sk_d1 : Lit.sameKey kd k1 = false := by kernel_rfl
theorem sk_d2 : Lit.sameKey kd k2 = false := by kernel_rfl
theorem sk_1d : Lit.sameKey k1 kd = false := by kernel_rfl
theorem sk_11 : Lit.sameKey k1 k1 = true := by kernel_rfl
theorem sk_12 : Lit.sameKey k1 k2 = false := by kernel_rfl
theorem sk_2d : Lit.sameKey k2 kd = false := by kernel_rfl
theorem sk_21 : Lit.sameKey k2 k1 = false := by kernel_rfl
theorem sk_22 : Lit.sameKey k2 k2 = true := by kernel_rfl
theorem reg_c (x at_ : Int) (w : World) (hx : 0 ≤ x) (hx' : x < 4294967296) : Calls Try.prog 35 #[.int .u32 x, .int .i64 at_] w fun e w' => e = .returned (.int .i64 (Bt.field x at_ 5)) ∧ w = w' := by
  have fr := Bt.field_rng x at_ 5
  go_enter Try.func35, Try.ntmps35
  go_wp2_with (go_at_call 29; refine (Bits.field_c _ _ _ _ hx hx').mono ?_; rintro e w' ⟨rfl, rfl⟩)
  go_ret
  exact ⟨rfl, rfl⟩
set_option maxHeartbeats 2000000 in
set_option maxRecDepth 100000 in
theorem op_c (f : Frm) (a : Option Addr) (n cap : Nat) (k x : Int) (w : World) (hx : 0 ≤ x) (hx' : x < 4294967296) (hn : n ≤ 4) (hp : Ps w a n f.ps) :
    Calls Try.prog 20 #[fv f a n cap, .int .i64 k, .int .u32 x] w fun e w' => e = .returned (.agg #[.int .i64 k, .int .i64 (opOf f k x).rd, .int .i64 (opOf f k x).r1, .int .i64 (opOf f k x).r2, .int .u32 (number f x)]) ∧ Below w.heap.size w w' := by
  obtain ⟨rv, hrv⟩ : ∃ rv, Hid (number f x = rv) := ⟨_, rfl⟩
  have NC : ∀ W, Below w.heap.size w W → Calls Try.prog 34 #[fv f a n cap, .int .u32 x] W fun e w' => e = .returned (.int .u32 rv) ∧ Below W.heap.size W w' := fun W hb => hrv.out ▸ number_c f a n cap x W hx hx' hn (hp.below hb)
  rw [hrv.out]
  have HD := has_d f a n cap
  have H1 := has_1 f a n cap
  have H2 := has_2 f a n cap
  have hmm := @run_makeMap Try.prog
  obtain ⟨dv, hdv⟩ : ∃ dv, Hid ((opOf f k x).rd = dv) := ⟨_, rfl⟩
  obtain ⟨av, hav⟩ : ∃ av, Hid ((opOf f k x).r1 = av) := ⟨_, rfl⟩
  obtain ⟨bv, hbv⟩ : ∃ bv, Hid ((opOf f k x).r2 = bv) := ⟨_, rfl⟩
  rw [hdv.out, hav.out, hbv.out]
  unfold fv at *
  generalize fstr f.d f.r1 f.r2 = z at *
  go_enter Try.func20, Try.ntmps20
  go_wp2_with (first | (go_at_call 34; refine (NC _ (by repeat (first | exact Below.refl _ _ | apply below_al))).mono ?_; rintro e w1 ⟨rfl, b1⟩; clear NC; obtain ⟨Wa, Wb, Wc, m1, m2, m3, o3, G3⟩ := lit_out (w1.alloc (.cells #[.int .i64 k, .int .i64 0, .int .i64 0, .int .i64 0, .int .u32 rv] 25)) w1.heap.size (w1.heap.size + 1) (by simp)) | (at_range; refine wpList_range_own _ rfl _ 69 rfl 9 68 lawStr underOut _ (w1.heap.size + 1) 3 (three 1 2 3) rfl o3 ?_; intro w0 hrg0 hg0 hs0))
  have S : OpSt w w1.heap.size (w1.heap.size + 1) Wc.heap.size (.int .u32 f.mask) (.string z) (.int .i64 f.sg) (.slice a n cap) k rv (has (three 1 2 3)) (Maps.size (three 1 2 3)) 0 0 0 w0 := by
    obtain ⟨q1, q2, q3⟩ := alloc2_then b1
    have q4 := alloc1_below w1 (.cells #[.int .i64 k, .int .i64 0, .int .i64 0, .int .i64 0, .int .u32 rv] 25)
    have q5 := heap_alloc_new w1 (.cells #[.int .i64 k, .int .i64 0, .int .i64 0, .int .i64 0, .int .u32 rv] 25)
    have G4 := below_grown q4
    have ht : ∀ b o, (w1.alloc (.cells #[.int .i64 k, .int .i64 0, .int .i64 0, .int .i64 0, .int .u32 rv] 25)).heap[b]? = some o → w0.heap[b]? = some o := fun b o h => (hg0.block _ (heap_lt ((G3.block _ (heap_lt h) (by simp)).trans h)) (by simp)).trans ((G3.block _ (heap_lt h) (by simp)).trans h)
    refine ⟨hrg0, ?_, ht _ _ ((G4.block _ (heap_lt q1) (by simp)).trans q1), ht _ _ ((G4.block _ (heap_lt q2) (by simp)).trans q2), ht _ _ q5⟩
    have c1 := Below.then q3 q4
    have c2 := c1.grown G3 c1.size (by intro k hk; cases hk)
    exact c2.grown hg0 c2.size (by intro k hk; cases hk)
  have n1 : w.heap.size + 1 < w1.heap.size := by
    have := b1.size
    simp at this
    omega
  have n2 : w1.heap.size < w1.heap.size + 1 := by omega
  have n3 : w1.heap.size + 1 < Wc.heap.size := o3.lt
  have invK : ∀ key kl, keyOf Try.prog 9 key = some kl → ∃ x, key = Value.string x := fun key kl h => by
    rw [keyOf_string underStr] at h
    unfold mapKey at h
    rw [underStr] at h
    cases key <;> simp at h
    exact ⟨_, rfl⟩
  clear hrg0 hg0 hs0 m1 m2 m3 o3 G3 b1
  generalize hmb : w1.heap.size + 1 = mb at *
  generalize Wc.heap.size = rr at *
  generalize w1.heap.size = g at *
  have D7 : f.d = true → dv = Bt.field x 7 5 := fun h => by rw [← hdv.out]; simp [opOf, h]
  have D0 : f.d = false → dv = 0 := fun h => by rw [← hdv.out]; simp [opOf, h]
  have A7 : f.r1 = true → av = Bt.field x 15 5 := fun h => by rw [← hav.out]; simp [opOf, h]
  have A0 : f.r1 = false → av = 0 := fun h => by rw [← hav.out]; simp [opOf, h]
  have B7 : f.r2 = true → bv = Bt.field x 20 5 := fun h => by rw [← hbv.out]; simp [opOf, h]
  have B0 : f.r2 = false → bv = 0 := fun h => by rw [← hbv.out]; simp [opOf, h]
  have RC := fun at_ W => reg_c x at_ W hx hx'
  clear hdv hav hbv hp hrv hn
  go_frame
  go_loopw [8] (fun _ wr => ∃ (left : Lit → Bool) (cnt : Nat) (rd r1 r2 : Int), OpSt w g mb rr (.int .u32 f.mask) (.string z) (.int .i64 f.sg) (.slice a n cap) k rv left cnt rd r1 r2 wr ∧ (∀ kl, left kl = true → has (three 1 2 3) kl = true) ∧ rd = (if left kd then 0 else dv) ∧ r1 = (if left k1 then 0 else av) ∧ r2 = (if left k2 then 0 else bv)) (fun _ wr => wr.rangeLeft mb rr)
  case atStart => exact ⟨_, _, 0, 0, 0, S, fun _ h => h, by rw [three_eq]; rfl, by rw [three_eq]; rfl, by rw [three_eq]; rfl⟩
  case round =>
    clear S
    obtain ⟨left, cnt, rd, r1, r2, S, hall, hrd, hr1, hr2⟩ := hrel
    have S0 := S
    go_wp2_with (first | (at_next; refine wpList_next_ranges _ rfl _ rfl 9 lawStr (ptr g) Value.string (fun i => .pointer (some ⟨g, i, none⟩)) invK (fun _ _ h => ptr_inv h) mb rr 3 (three 1 2 3) left cnt rfl S.rg ?_ ?_; (intro hc0 hl0; rw [hl0 kd] at hrd; rw [hl0 k1] at hr1; rw [hl0 k2] at hr2; simp only [Bool.false_eq_true, if_false] at hrd hr1 hr2; subst hrd hr1 hr2; obtain ⟨y0, y1, y2, y3, y4, yf⟩ := cells5 S.ob; obtain ⟨z0, z1, z2, z3, z4, zf⟩ := cells5 S.rb); rotate_left; (intro x0 c0 kl y0 w2 cnt1 hkey hlk hR hat hrg2 hlt2 hgr2 hsz2 hen; replace S := OpSt.nexts S n1 n2 n3 hgr2 hrg2; clear hrg2; obtain ⟨x0, x1, x2, x3⟩ := cells4 S.fb; obtain ⟨rfl, rfl, rfl⟩ | ⟨rfl, rfl, rfl⟩ | ⟨rfl, rfl, rfl⟩ := next_cases hkey (hall _ hlk) hR hat)) | (go_at_call 30; (first | with_reducible refine (HD _).mono ?_ | with_reducible refine (H1 _).mono ?_ | with_reducible refine (H2 _).mono ?_); rintro e w5 ⟨rfl, b5⟩; clear x0 x1 x2 x3; (first | replace S := S.grown (below_grown b5) | replace S := (S.drewN 1).grown (below_grown b5)); obtain ⟨Wd, We, Wf, i1, i2, i3, l1, l2, l3, G5⟩ := lit_in w5; have S2 := S.grown G5; obtain ⟨y0, y1, y2, y3, y4, yf⟩ := cells5 S2.ob) | (go_at_call 35; refine (RC _ _).mono ?_; rintro e w' ⟨rfl, rfl⟩))
    · have hf : f.d = true := by assumption
      have SS := OpSt.put (rd' := Bt.field x 7 5) (r1' := r1) (r2' := r2) S2 n1 n2 n3 1 (.int .i64 (Bt.field x 7 5)) rfl
      go_roundw
      case rel => exact ⟨_, _, _, _, _, SS, fun kl h => hall kl (by simp at h; exact h.1), by simp only [sk_dd, Bool.not_true, Bool.and_false, Bool.false_eq_true, if_false]; exact (D7 hf).symm, by simp only [sk_1d, Bool.not_false, Bool.and_true]; exact hr1, by simp only [sk_2d, Bool.not_false, Bool.and_true]; exact hr2⟩
      case measure => rw [SS.rg.left_eq, S0.rg.left_eq]; exact hlt2
    · have hf : f.d = false := by assumption
      have SS := S
      go_roundw
      case rel => exact ⟨_, _, _, _, _, SS, fun kl h => hall kl (by simp at h; exact h.1), by rw [hrd, hlk]; simp only [sk_dd, Bool.not_true, Bool.and_false, Bool.false_eq_true, if_false, if_true]; exact (D0 hf).symm, by simp only [sk_1d, Bool.not_false, Bool.and_true]; exact hr1, by simp only [sk_2d, Bool.not_false, Bool.and_true]; exact hr2⟩
      case measure => rw [SS.rg.left_eq, S0.rg.left_eq]; exact hlt2
    · have hf : f.r1 = true := by assumption
      have SS := OpSt.put (rd' := rd) (r1' := Bt.field x 15 5) (r2' := r2) S2 n1 n2 n3 2 (.int .i64 (Bt.field x 15 5)) rfl
      go_roundw
      case rel => exact ⟨_, _, _, _, _, SS, fun kl h => hall kl (by simp at h; exact h.1), by simp only [sk_d1, Bool.not_false, Bool.and_true]; exact hrd, by simp only [sk_11, Bool.not_true, Bool.and_false, Bool.false_eq_true, if_false]; exact (A7 hf).symm, by simp only [sk_21, Bool.not_false, Bool.and_true]; exact hr2⟩
      case measure => rw [SS.rg.left_eq, S0.rg.left_eq]; exact hlt2
    · have hf : f.r1 = false := by assumption
      have SS := S
      go_roundw
      case rel => exact ⟨_, _, _, _, _, SS, fun kl h => hall kl (by simp at h; exact h.1), by simp only [sk_d1, Bool.not_false, Bool.and_true]; exact hrd, by rw [hr1, hlk]; simp only [sk_11, Bool.not_true, Bool.and_false, Bool.false_eq_true, if_false, if_true]; exact (A0 hf).symm, by simp only [sk_21, Bool.not_false, Bool.and_true]; exact hr2⟩
      case measure => rw [SS.rg.left_eq, S0.rg.left_eq]; exact hlt2
    · have hf : f.r2 = true := by assumption
      have SS := OpSt.put (rd' := rd) (r1' := r1) (r2' := Bt.field x 20 5) S2 n1 n2 n3 3 (.int .i64 (Bt.field x 20 5)) rfl
      go_roundw
      case rel => exact ⟨_, _, _, _, _, SS, fun kl h => hall kl (by simp at h; exact h.1), by simp only [sk_d2, Bool.not_false, Bool.and_true]; exact hrd, by simp only [sk_12, Bool.not_false, Bool.and_true]; exact hr1, by simp only [sk_22, Bool.not_true, Bool.and_false, Bool.false_eq_true, if_false]; exact (B7 hf).symm⟩
      case measure => rw [SS.rg.left_eq, S0.rg.left_eq]; exact hlt2
    · have hf : f.r2 = false := by assumption
      have SS := S
      go_roundw
      case rel => exact ⟨_, _, _, _, _, SS, fun kl h => hall kl (by simp at h; exact h.1), by simp only [sk_d2, Bool.not_false, Bool.and_true]; exact hrd, by simp only [sk_12, Bool.not_false, Bool.and_true]; exact hr1, by rw [hr2, hlk]; simp only [sk_22, Bool.not_true, Bool.and_false, Bool.false_eq_true, if_false, if_true]; exact (B0 hf).symm⟩
      case measure => rw [SS.rg.left_eq, S0.rg.left_eq]; exact hlt2
    · have hz := set5 S.rb (.int .i64 k) (.int .i64 rd) (.int .i64 r1) (.int .i64 r2) (.int .u32 rv)
      have hb := set5_below S.below (show w.heap.size ≤ w.heap.size + 1 by omega) (.int .i64 k) (.int .i64 rd) (.int .i64 r1) (.int .i64 r2) (.int .u32 rv)
      generalize (((((wr.setCell ⟨w.heap.size + 1, 0, none⟩ (.int .i64 k)).setCell ⟨w.heap.size + 1, 1, none⟩ (.int .i64 rd)).setCell ⟨w.heap.size + 1, 2, none⟩ (.int .i64 r1)).setCell ⟨w.heap.size + 1, 3, none⟩ (.int .i64 r2)).setCell ⟨w.heap.size + 1, 4, none⟩ (.int .u32 rv)) = WW at *
      clear y0 y1 y2 y3 y4 yf z0 z1 z2 z3 z4 zf
      obtain ⟨z0, z1, z2, z3, z4, _⟩ := cells5 hz
      refine bodyPost_ret (v := .agg #[.int .i64 k, .int .i64 rd, .int .i64 r1, .int .i64 r2, .int .u32 rv]) ?_ rfl ⟨rfl, hb⟩
      simp [results, Try.results20, go_sem, z0, z1, z2, z3, z4]
end Dec
end Go.Proofs.Ytpdemjdjgehpgaa
