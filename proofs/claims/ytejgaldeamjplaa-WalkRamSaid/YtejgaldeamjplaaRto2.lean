/- Contracts of the reference of package walk: To, the second table. -/
import Derived.Test.YtejgaldeamjplaaRto
namespace Go.Proofs.Ytejgaldeamjplaa
open Go.RowKit
set_option linter.unusedVariables false
namespace Ref15
set_option maxHeartbeats 2000000 in
set_option maxRecDepth 100000 in
theorem to_n0 {w : World} {base : Int} (hb0 : 0 ≤ base) (hb1 : base < 4294967296) {ad : Option Addr} {n cap : Nat} {zs : List Int} (hW0 : Wd w ad n cap zs) (hn4 : n ≤ 4096) (a : Wk.Ask) (ha : a.Ok) (hp3 : (a.priv == 3) = false) (hs31 : Wk.bit a.satp 31 = true) {i : Nat} (hp : Wk.place base n (Wk.at_ (Bt.field a.satp 0 22) a.va 1) = some i) (hv : Wk.bit (zs.getD i 0) 0 = true) (h21 : Wk.bit (zs.getD i 0) 2 = true → Wk.bit (zs.getD i 0) 1 = true) (hl : Wk.isLeaf (zs.getD i 0) = false) (hq : Wk.place base n (Wk.at_ (Wk.frame (zs.getD i 0)) a.va 0) = none) :
    Calls Try.prog 13 #[ramv base ad n cap, .agg #[.int .u32 a.va, .int .u32 a.satp, .int .u32 a.status, .int .i64 a.access, .int .i64 a.priv]] w fun e w' => ∃ a' k', e = .returned (ansv 0 (Wk.cause a.access false) false base a' n k') ∧ Wd w' a' n k' zs ∧ Below w.heap.size w w' := by
  have hW := Lib.hid hW0
  have hB : ∀ b off i, ad = some ⟨b, off, none⟩ → i < n → b < w.heap.size := fun b off i e hi => by
    obtain ⟨b', off', e', hc⟩ := hW0.at_ hi
    rw [e] at e'
    cases e'
    exact World.block_lt_of_cell? w _ (hc i hi)
  have f0 := (Bt.field_rng a.satp 0 22).1
  have f1 : Bt.field a.satp 0 22 < 4194304 := (field_small a.satp 0 22 (by decide)).2
  have g0 := (Bt.field_rng a.va 22 10).1
  have g1 : Bt.field a.va 22 10 < 1024 := (field_small a.va 22 10 (by decide)).2
  have hb31 := fun W => bit_c a.satp 31 W ha.satp0 ha.satp1 (by decide) (by decide)
  rw [hs31] at hb31
  have hff := fun W => Ref1.field_c a.satp 0 22 W ha.satp0 ha.satp1 (hidA (by decide))
  have hf22 := fun W => Ref1.field_c a.va 22 10 W ha.va0 ha.va1 (hidA (by decide))
  have hi := (Wk.place_lt hp).1
  have hP1 := fun W => place_c (w := W) (a := ad) (cap := cap) hn4 hb0 hb1 (x := Bt.field a.satp 0 22 * 4096 + 4 * Bt.field a.va 22 10) (by omega) (by omega) (v := (i : Int)) (by have hp' : Wk.place base n (Bt.field a.satp 0 22 * 4096 + 4 * Bt.field a.va 22 10) = some i := hp; show _ = _; rw [hp'])
  obtain ⟨bb, off, rfl, hcell⟩ := hW0.at_ hi
  have hx := Lib.hid (hcell i hi)
  obtain ⟨z0, z1⟩ := hW0.z0 i
  have hi2 : (i : Int) < (n : Int) := by omega
  have hi3 : ¬ (i : Int) < 0 := by omega
  have i0 := fun W => bit_c (zs.getD i 0) 0 W z0 z1 (by decide) (by decide)
  have i1 := fun W => bit_c (zs.getD i 0) 1 W z0 z1 (by decide) (by decide)
  have i2 := fun W => bit_c (zs.getD i 0) 2 W z0 z1 (by decide) (by decide)
  have i3 := fun W => bit_c (zs.getD i 0) 3 W z0 z1 (by decide) (by decide)
  have l1 : Wk.bit (zs.getD i 0) 1 = false := by
    unfold Wk.isLeaf at hl
    cases e1 : Wk.bit (zs.getD i 0) 1 <;> simp_all
  have l3 : Wk.bit (zs.getD i 0) 3 = false := by
    unfold Wk.isLeaf at hl
    cases e1 : Wk.bit (zs.getD i 0) 3 <;> simp_all
  have l2 : Wk.bit (zs.getD i 0) 2 = false := by
    cases e1 : Wk.bit (zs.getD i 0) 2
    · rfl
    · have := h21 e1; rw [l1] at this; cases this
  rw [hv] at i0
  rw [l1] at i1
  rw [l2] at i2
  rw [l3] at i3
  have e0 := (Bt.field_rng (zs.getD i 0) 10 22).1
  have e1 : Bt.field (zs.getD i 0) 10 22 < 4194304 := (field_small (zs.getD i 0) 10 22 (by decide)).2
  have d0 := (Bt.field_rng a.va 12 10).1
  have d1 : Bt.field a.va 12 10 < 1024 := (field_small a.va 12 10 (by decide)).2
  have hfe := fun W => Ref1.field_c (zs.getD i 0) 10 22 W z0 z1 (hidA (by decide))
  have hf12 := fun W => Ref1.field_c a.va 12 10 W ha.va0 ha.va1 (hidA (by decide))
  have hP0 := fun W => place_c (w := W) (a := (some ⟨bb, off, none⟩)) (cap := cap) hn4 hb0 hb1 (x := Bt.field (zs.getD i 0) 10 22 * 4096 + 4 * Bt.field a.va 12 10) (by omega) (by omega) (v := -1) (by have hp' : Wk.place base n (Bt.field (zs.getD i 0) 10 22 * 4096 + 4 * Bt.field a.va 12 10) = none := hq; show _ = _; rw [hp'])
  generalize Bt.field a.satp 0 22 = f at *
  generalize Bt.field a.va 22 10 = fv at *
  generalize Bt.field (zs.getD i 0) 10 22 = fe at *
  generalize Bt.field a.va 12 10 = fv0 at *
  obtain ⟨x, HX⟩ : ∃ x, Hid (zs.getD i 0 = x) := ⟨_, rfl⟩
  rw [HX.out] at hx i0 i1 i2 i3 hfe
  clear hp hs31 hv h21 hl l1 l2 l3 z0 z1 hq hW0 hcell
  go_enter Try.func13, Try.ntmps13
  go_wp2_with (first | (go_at_call 21; first | ((with_reducible refine (hb31 _).mono ?_); rintro e w' ⟨rfl, rfl⟩)) | (go_at_call 22; first | ((with_reducible refine (hff _).mono ?_); rintro e w' ⟨rfl, rfl⟩)))
  refine wp_loop_rounds 3 ?_
  rw [rounds_succ]
  obtain ⟨e0, e1, e2, B⟩ := alloc3_then (Below.refl _ (((w.alloc (.cells #[.int .u32 base, .slice (some ⟨bb, off, none⟩) n cap] 25)).alloc (.cells #[.int .u32 a.va, .int .u32 a.satp, .int .u32 a.status, .int .i64 a.access, .int .i64 a.priv] 27)).alloc (.cells #[.int .u32 0, .int .u32 0, .bool false, .int .u32 0, .slice none 0 0] 36)))
  generalize (((w.alloc (.cells #[.int .u32 base, .slice (some ⟨bb, off, none⟩) n cap] 25)).alloc (.cells #[.int .u32 a.va, .int .u32 a.satp, .int .u32 a.status, .int .i64 a.access, .int .i64 a.priv] 27)).alloc (.cells #[.int .u32 0, .int .u32 0, .bool false, .int .u32 0, .slice none 0 0] 36)) = wA at *
  obtain ⟨x0, x1, xf⟩ := cells2 e0
  obtain ⟨y0, y1, y2, y3, y4, _⟩ := cells5 e1
  obtain ⟨t0, t1, t2, t3, t4, tf⟩ := cells5 e2
  have ltr := (Array.getElem?_eq_some_iff.1 e2).1
  have E0 := Lib.hid e0
  have E1 := Lib.hid e1
  have E2 := Lib.hid e2
  clear e0 e1 e2
  have t5 : IntKind.i64.wrap (10 * 0) = 0 := by decide
  have t6 : IntKind.i64.wrap (22 - 0) = 22 := by decide
  have t7 : IntKind.i64.wrap (22) = 22 := by decide
  have t8 : IntKind.i64.wrap (0) = 0 := by decide
  have s4 : IntKind.u64.wrap f = f := by rw [IntKind.wrap_u64]; omega
  have s5 : IntKind.u64.wrap fv = fv := by rw [IntKind.wrap_u64]; omega
  have s1 : IntKind.u64.wrap (f * 4096) = f * 4096 := by rw [IntKind.wrap_u64]; omega
  have s2 : IntKind.u64.wrap (4 * fv) = 4 * fv := by rw [IntKind.wrap_u64]; omega
  have s3 : IntKind.u64.wrap (f * 4096 + 4 * fv) = f * 4096 + 4 * fv := by rw [IntKind.wrap_u64]; omega
  go_wp2_with fail
  go_region_held3 (fun W => W.cell? ⟨w.heap.size, 0, none⟩ = some (.int .u32 base) ∧ W.cell? ⟨w.heap.size, 1, none⟩ = some (.slice (some ⟨bb, off, none⟩) n cap) ∧ W.cell? ⟨w.heap.size + 1, 0, none⟩ = some (.int .u32 a.va)) (exact ⟨x0, x1, y0⟩) (first | (go_at_call 22; first | ((with_reducible refine (hf22 _).mono ?_); rintro e w' ⟨rfl, rfl⟩)) | (go_at_call 23; (with_reducible refine (hP1 _).mono ?_); rintro e w1 ⟨rfl, b5⟩; clear hP1; (try replace b5 := undrew b5); have e0 := (b5.block _ (Array.getElem?_eq_some_iff.1 E0.out).1).trans E0.out; have e1 := (b5.block _ (Array.getElem?_eq_some_iff.1 E1.out).1).trans E1.out; have e2 := (b5.block _ ltr).trans E2.out; replace B := Below.then B b5; clear E0 E1 E2 ltr x0 x1 xf y0 y1 y2 y3 y4 t0 t1 t2 t3 t4 tf b5; obtain ⟨x0, x1, xf⟩ := cells2 e0; obtain ⟨y0, y1, y2, y3, y4, _⟩ := cells5 e1; obtain ⟨t0, t1, t2, t3, t4, tf⟩ := cells5 e2; have ltr := (Array.getElem?_eq_some_iff.1 e2).1; have E0 := Lib.hid e0; have E1 := Lib.hid e1; have E2 := Lib.hid e2; clear e0 e1 e2))
  clear s1 s2 s3 s4 s5 t5 t6 t7 t8
  have c1 := (B.cell (World.block_lt_of_cell? w _ hx.out)).trans hx.out
  go_wp2_with (first | (go_at_call 21; first | ((with_reducible refine (i0 _).mono ?_); rintro e w' ⟨rfl, rfl⟩) | ((with_reducible refine (i1 _).mono ?_); rintro e w' ⟨rfl, rfl⟩) | ((with_reducible refine (i2 _).mono ?_); rintro e w' ⟨rfl, rfl⟩) | ((with_reducible refine (i3 _).mono ?_); rintro e w' ⟨rfl, rfl⟩)) | (go_at_call 22; first | ((with_reducible refine (hfe _).mono ?_); rintro e w' ⟨rfl, rfl⟩)))
  rw [rounds_succ]
  clear c1
  have t5 : IntKind.i64.wrap (10 * 1) = 10 := by decide
  have t6 : IntKind.i64.wrap (22 - 10) = 12 := by decide
  have t7 : IntKind.i64.wrap (12) = 12 := by decide
  have t8 : IntKind.i64.wrap (10) = 10 := by decide
  have s4 : IntKind.u64.wrap fe = fe := by rw [IntKind.wrap_u64]; omega
  have s5 : IntKind.u64.wrap fv0 = fv0 := by rw [IntKind.wrap_u64]; omega
  have s1 : IntKind.u64.wrap (fe * 4096) = fe * 4096 := by rw [IntKind.wrap_u64]; omega
  have s2 : IntKind.u64.wrap (4 * fv0) = 4 * fv0 := by rw [IntKind.wrap_u64]; omega
  have s3 : IntKind.u64.wrap (fe * 4096 + 4 * fv0) = fe * 4096 + 4 * fv0 := by rw [IntKind.wrap_u64]; omega
  go_wp2_with fail
  go_region_held3 (fun W => W.cell? ⟨w.heap.size, 0, none⟩ = some (.int .u32 base) ∧ W.cell? ⟨w.heap.size, 1, none⟩ = some (.slice (some ⟨bb, off, none⟩) n cap) ∧ W.cell? ⟨w.heap.size + 1, 0, none⟩ = some (.int .u32 a.va)) (exact ⟨x0, x1, y0⟩) (first | (go_at_call 22; first | ((with_reducible refine (hf12 _).mono ?_); rintro e w' ⟨rfl, rfl⟩)) | (go_at_call 23; (with_reducible refine (hP0 _).mono ?_); rintro e w2 ⟨rfl, b5⟩; clear hP0; (try replace b5 := undrew b5); have e0 := (b5.block _ (Array.getElem?_eq_some_iff.1 E0.out).1).trans E0.out; have e1 := (b5.block _ (Array.getElem?_eq_some_iff.1 E1.out).1).trans E1.out; have e2 := (b5.block _ ltr).trans E2.out; replace B := Below.then B b5; clear E0 E1 E2 ltr x0 x1 xf y0 y1 y2 y3 y4 t0 t1 t2 t3 t4 tf b5; obtain ⟨x0, x1, xf⟩ := cells2 e0; obtain ⟨y0, y1, y2, y3, y4, _⟩ := cells5 e1; obtain ⟨t0, t1, t2, t3, t4, tf⟩ := cells5 e2; have ltr := (Array.getElem?_eq_some_iff.1 e2).1; have E0 := Lib.hid e0; have E1 := Lib.hid e1; have E2 := Lib.hid e2; clear e0 e1 e2))
  clear s1 s2 s3 s4 s5 t5 t6 t7 t8
  go_wp2_with (first | (go_at_call 24; refine (none_c _ _ _ _ _ a ha.acc _).mono ?_; rintro e w9 ⟨rfl, b5⟩; have e0 := (b5.block _ (Array.getElem?_eq_some_iff.1 E0.out).1).trans E0.out; have e1 := (b5.block _ (Array.getElem?_eq_some_iff.1 E1.out).1).trans E1.out; have e2 := (b5.block _ ltr).trans E2.out; replace B := Below.then B b5; clear E0 E1 E2 ltr x0 x1 xf y0 y1 y2 y3 y4 t0 t1 t2 t3 t4 tf b5; obtain ⟨x0, x1, xf⟩ := cells2 e0; obtain ⟨y0, y1, y2, y3, y4, _⟩ := cells5 e1; obtain ⟨t0, t1, t2, t3, t4, tf⟩ := cells5 e2; have ltr := (Array.getElem?_eq_some_iff.1 e2).1; have E0 := Lib.hid e0; have E1 := Lib.hid e1; have E2 := Lib.hid e2; clear e0 e1 e2) | (refine bodyPost_ret (retA rfl _ _ _ _ rfl (put5 E2.out _ _ _ _ _) rfl) rfl ⟨_, _, rfl, (hW.out.below B).put5 (w0 := w) (fun b off i e hi => hB _ _ _ e hi) (by omega) _ _ _ _ _, put5_below B (by omega) _ _ _ _ _⟩))
set_option maxHeartbeats 2000000 in
set_option maxRecDepth 100000 in
theorem to_v0 {w : World} {base : Int} (hb0 : 0 ≤ base) (hb1 : base < 4294967296) {ad : Option Addr} {n cap : Nat} {zs : List Int} (hW0 : Wd w ad n cap zs) (hn4 : n ≤ 4096) (a : Wk.Ask) (ha : a.Ok) (hp3 : (a.priv == 3) = false) (hs31 : Wk.bit a.satp 31 = true) {i : Nat} (hp : Wk.place base n (Wk.at_ (Bt.field a.satp 0 22) a.va 1) = some i) (hv : Wk.bit (zs.getD i 0) 0 = true) (h21 : Wk.bit (zs.getD i 0) 2 = true → Wk.bit (zs.getD i 0) 1 = true) (hl : Wk.isLeaf (zs.getD i 0) = false) {j : Nat} (hq : Wk.place base n (Wk.at_ (Wk.frame (zs.getD i 0)) a.va 0) = some j) (hv0 : Wk.bit (zs.getD j 0) 0 = false) :
    Calls Try.prog 13 #[ramv base ad n cap, .agg #[.int .u32 a.va, .int .u32 a.satp, .int .u32 a.status, .int .i64 a.access, .int .i64 a.priv]] w fun e w' => ∃ a' k', e = .returned (ansv 0 (Wk.cause a.access true) false base a' n k') ∧ Wd w' a' n k' zs ∧ Below w.heap.size w w' := by
  have hW := Lib.hid hW0
  have hB : ∀ b off i, ad = some ⟨b, off, none⟩ → i < n → b < w.heap.size := fun b off i e hi => by
    obtain ⟨b', off', e', hc⟩ := hW0.at_ hi
    rw [e] at e'
    cases e'
    exact World.block_lt_of_cell? w _ (hc i hi)
  have f0 := (Bt.field_rng a.satp 0 22).1
  have f1 : Bt.field a.satp 0 22 < 4194304 := (field_small a.satp 0 22 (by decide)).2
  have g0 := (Bt.field_rng a.va 22 10).1
  have g1 : Bt.field a.va 22 10 < 1024 := (field_small a.va 22 10 (by decide)).2
  have hb31 := fun W => bit_c a.satp 31 W ha.satp0 ha.satp1 (by decide) (by decide)
  rw [hs31] at hb31
  have hff := fun W => Ref1.field_c a.satp 0 22 W ha.satp0 ha.satp1 (hidA (by decide))
  have hf22 := fun W => Ref1.field_c a.va 22 10 W ha.va0 ha.va1 (hidA (by decide))
  have hi := (Wk.place_lt hp).1
  have hP1 := fun W => place_c (w := W) (a := ad) (cap := cap) hn4 hb0 hb1 (x := Bt.field a.satp 0 22 * 4096 + 4 * Bt.field a.va 22 10) (by omega) (by omega) (v := (i : Int)) (by have hp' : Wk.place base n (Bt.field a.satp 0 22 * 4096 + 4 * Bt.field a.va 22 10) = some i := hp; show _ = _; rw [hp'])
  obtain ⟨bb, off, rfl, hcell⟩ := hW0.at_ hi
  have hx := Lib.hid (hcell i hi)
  obtain ⟨z0, z1⟩ := hW0.z0 i
  have hi2 : (i : Int) < (n : Int) := by omega
  have hi3 : ¬ (i : Int) < 0 := by omega
  have i0 := fun W => bit_c (zs.getD i 0) 0 W z0 z1 (by decide) (by decide)
  have i1 := fun W => bit_c (zs.getD i 0) 1 W z0 z1 (by decide) (by decide)
  have i2 := fun W => bit_c (zs.getD i 0) 2 W z0 z1 (by decide) (by decide)
  have i3 := fun W => bit_c (zs.getD i 0) 3 W z0 z1 (by decide) (by decide)
  have l1 : Wk.bit (zs.getD i 0) 1 = false := by
    unfold Wk.isLeaf at hl
    cases e1 : Wk.bit (zs.getD i 0) 1 <;> simp_all
  have l3 : Wk.bit (zs.getD i 0) 3 = false := by
    unfold Wk.isLeaf at hl
    cases e1 : Wk.bit (zs.getD i 0) 3 <;> simp_all
  have l2 : Wk.bit (zs.getD i 0) 2 = false := by
    cases e1 : Wk.bit (zs.getD i 0) 2
    · rfl
    · have := h21 e1; rw [l1] at this; cases this
  rw [hv] at i0
  rw [l1] at i1
  rw [l2] at i2
  rw [l3] at i3
  have e0 := (Bt.field_rng (zs.getD i 0) 10 22).1
  have e1 : Bt.field (zs.getD i 0) 10 22 < 4194304 := (field_small (zs.getD i 0) 10 22 (by decide)).2
  have d0 := (Bt.field_rng a.va 12 10).1
  have d1 : Bt.field a.va 12 10 < 1024 := (field_small a.va 12 10 (by decide)).2
  have hfe := fun W => Ref1.field_c (zs.getD i 0) 10 22 W z0 z1 (hidA (by decide))
  have hf12 := fun W => Ref1.field_c a.va 12 10 W ha.va0 ha.va1 (hidA (by decide))
  have hj := (Wk.place_lt hq).1
  have hP0 := fun W => place_c (w := W) (a := (some ⟨bb, off, none⟩)) (cap := cap) hn4 hb0 hb1 (x := Bt.field (zs.getD i 0) 10 22 * 4096 + 4 * Bt.field a.va 12 10) (by omega) (by omega) (v := (j : Int)) (by have hp' : Wk.place base n (Bt.field (zs.getD i 0) 10 22 * 4096 + 4 * Bt.field a.va 12 10) = some j := hq; show _ = _; rw [hp'])
  have hy := Lib.hid (hcell j hj)
  obtain ⟨y0', y1'⟩ := hW0.z0 j
  have hj2 : (j : Int) < (n : Int) := by omega
  have hj3 : ¬ (j : Int) < 0 := by omega
  have j0 := fun W => bit_c (zs.getD j 0) 0 W y0' y1' (by decide) (by decide)
  have j1 := fun W => bit_c (zs.getD j 0) 1 W y0' y1' (by decide) (by decide)
  have j2 := fun W => bit_c (zs.getD j 0) 2 W y0' y1' (by decide) (by decide)
  have j3 := fun W => bit_c (zs.getD j 0) 3 W y0' y1' (by decide) (by decide)
  have hfj := fun W => Ref1.field_c (zs.getD j 0) 10 22 W y0' y1' (hidA (by decide))
  rw [hv0] at j0
  generalize Bt.field a.satp 0 22 = f at *
  generalize Bt.field a.va 22 10 = fv at *
  generalize Bt.field (zs.getD i 0) 10 22 = fe at *
  generalize Bt.field a.va 12 10 = fv0 at *
  obtain ⟨x, HX⟩ : ∃ x, Hid (zs.getD i 0 = x) := ⟨_, rfl⟩
  rw [HX.out] at hx i0 i1 i2 i3 hfe
  generalize Bt.field (zs.getD j 0) 10 22 = fj at *
  obtain ⟨y, HY⟩ : ∃ y, Hid (zs.getD j 0 = y) := ⟨_, rfl⟩
  rw [HY.out] at hy j0 j1 j2 j3 hfj
  clear hp hs31 hv h21 hl l1 l2 l3 z0 z1 hq hW0 hcell y0' y1' hv0
  go_enter Try.func13, Try.ntmps13
  go_wp2_with (first | (go_at_call 21; first | ((with_reducible refine (hb31 _).mono ?_); rintro e w' ⟨rfl, rfl⟩)) | (go_at_call 22; first | ((with_reducible refine (hff _).mono ?_); rintro e w' ⟨rfl, rfl⟩)))
  refine wp_loop_rounds 3 ?_
  rw [rounds_succ]
  obtain ⟨e0, e1, e2, B⟩ := alloc3_then (Below.refl _ (((w.alloc (.cells #[.int .u32 base, .slice (some ⟨bb, off, none⟩) n cap] 25)).alloc (.cells #[.int .u32 a.va, .int .u32 a.satp, .int .u32 a.status, .int .i64 a.access, .int .i64 a.priv] 27)).alloc (.cells #[.int .u32 0, .int .u32 0, .bool false, .int .u32 0, .slice none 0 0] 36)))
  generalize (((w.alloc (.cells #[.int .u32 base, .slice (some ⟨bb, off, none⟩) n cap] 25)).alloc (.cells #[.int .u32 a.va, .int .u32 a.satp, .int .u32 a.status, .int .i64 a.access, .int .i64 a.priv] 27)).alloc (.cells #[.int .u32 0, .int .u32 0, .bool false, .int .u32 0, .slice none 0 0] 36)) = wA at *
  obtain ⟨x0, x1, xf⟩ := cells2 e0
  obtain ⟨y0, y1, y2, y3, y4, _⟩ := cells5 e1
  obtain ⟨t0, t1, t2, t3, t4, tf⟩ := cells5 e2
  have ltr := (Array.getElem?_eq_some_iff.1 e2).1
  have E0 := Lib.hid e0
  have E1 := Lib.hid e1
  have E2 := Lib.hid e2
  clear e0 e1 e2
  have t5 : IntKind.i64.wrap (10 * 0) = 0 := by decide
  have t6 : IntKind.i64.wrap (22 - 0) = 22 := by decide
  have t7 : IntKind.i64.wrap (22) = 22 := by decide
  have t8 : IntKind.i64.wrap (0) = 0 := by decide
  have s4 : IntKind.u64.wrap f = f := by rw [IntKind.wrap_u64]; omega
  have s5 : IntKind.u64.wrap fv = fv := by rw [IntKind.wrap_u64]; omega
  have s1 : IntKind.u64.wrap (f * 4096) = f * 4096 := by rw [IntKind.wrap_u64]; omega
  have s2 : IntKind.u64.wrap (4 * fv) = 4 * fv := by rw [IntKind.wrap_u64]; omega
  have s3 : IntKind.u64.wrap (f * 4096 + 4 * fv) = f * 4096 + 4 * fv := by rw [IntKind.wrap_u64]; omega
  go_wp2_with fail
  go_region_held3 (fun W => W.cell? ⟨w.heap.size, 0, none⟩ = some (.int .u32 base) ∧ W.cell? ⟨w.heap.size, 1, none⟩ = some (.slice (some ⟨bb, off, none⟩) n cap) ∧ W.cell? ⟨w.heap.size + 1, 0, none⟩ = some (.int .u32 a.va)) (exact ⟨x0, x1, y0⟩) (first | (go_at_call 22; first | ((with_reducible refine (hf22 _).mono ?_); rintro e w' ⟨rfl, rfl⟩)) | (go_at_call 23; (with_reducible refine (hP1 _).mono ?_); rintro e w1 ⟨rfl, b5⟩; clear hP1; (try replace b5 := undrew b5); have e0 := (b5.block _ (Array.getElem?_eq_some_iff.1 E0.out).1).trans E0.out; have e1 := (b5.block _ (Array.getElem?_eq_some_iff.1 E1.out).1).trans E1.out; have e2 := (b5.block _ ltr).trans E2.out; replace B := Below.then B b5; clear E0 E1 E2 ltr x0 x1 xf y0 y1 y2 y3 y4 t0 t1 t2 t3 t4 tf b5; obtain ⟨x0, x1, xf⟩ := cells2 e0; obtain ⟨y0, y1, y2, y3, y4, _⟩ := cells5 e1; obtain ⟨t0, t1, t2, t3, t4, tf⟩ := cells5 e2; have ltr := (Array.getElem?_eq_some_iff.1 e2).1; have E0 := Lib.hid e0; have E1 := Lib.hid e1; have E2 := Lib.hid e2; clear e0 e1 e2))
  clear s1 s2 s3 s4 s5 t5 t6 t7 t8
  have c1 := (B.cell (World.block_lt_of_cell? w _ hx.out)).trans hx.out
  go_wp2_with (first | (go_at_call 21; first | ((with_reducible refine (i0 _).mono ?_); rintro e w' ⟨rfl, rfl⟩) | ((with_reducible refine (i1 _).mono ?_); rintro e w' ⟨rfl, rfl⟩) | ((with_reducible refine (i2 _).mono ?_); rintro e w' ⟨rfl, rfl⟩) | ((with_reducible refine (i3 _).mono ?_); rintro e w' ⟨rfl, rfl⟩)) | (go_at_call 22; first | ((with_reducible refine (hfe _).mono ?_); rintro e w' ⟨rfl, rfl⟩)))
  rw [rounds_succ]
  clear c1
  have t5 : IntKind.i64.wrap (10 * 1) = 10 := by decide
  have t6 : IntKind.i64.wrap (22 - 10) = 12 := by decide
  have t7 : IntKind.i64.wrap (12) = 12 := by decide
  have t8 : IntKind.i64.wrap (10) = 10 := by decide
  have s4 : IntKind.u64.wrap fe = fe := by rw [IntKind.wrap_u64]; omega
  have s5 : IntKind.u64.wrap fv0 = fv0 := by rw [IntKind.wrap_u64]; omega
  have s1 : IntKind.u64.wrap (fe * 4096) = fe * 4096 := by rw [IntKind.wrap_u64]; omega
  have s2 : IntKind.u64.wrap (4 * fv0) = 4 * fv0 := by rw [IntKind.wrap_u64]; omega
  have s3 : IntKind.u64.wrap (fe * 4096 + 4 * fv0) = fe * 4096 + 4 * fv0 := by rw [IntKind.wrap_u64]; omega
  go_wp2_with fail
  go_region_held3 (fun W => W.cell? ⟨w.heap.size, 0, none⟩ = some (.int .u32 base) ∧ W.cell? ⟨w.heap.size, 1, none⟩ = some (.slice (some ⟨bb, off, none⟩) n cap) ∧ W.cell? ⟨w.heap.size + 1, 0, none⟩ = some (.int .u32 a.va)) (exact ⟨x0, x1, y0⟩) (first | (go_at_call 22; first | ((with_reducible refine (hf12 _).mono ?_); rintro e w' ⟨rfl, rfl⟩)) | (go_at_call 23; (with_reducible refine (hP0 _).mono ?_); rintro e w2 ⟨rfl, b5⟩; clear hP0; (try replace b5 := undrew b5); have e0 := (b5.block _ (Array.getElem?_eq_some_iff.1 E0.out).1).trans E0.out; have e1 := (b5.block _ (Array.getElem?_eq_some_iff.1 E1.out).1).trans E1.out; have e2 := (b5.block _ ltr).trans E2.out; replace B := Below.then B b5; clear E0 E1 E2 ltr x0 x1 xf y0 y1 y2 y3 y4 t0 t1 t2 t3 t4 tf b5; obtain ⟨x0, x1, xf⟩ := cells2 e0; obtain ⟨y0, y1, y2, y3, y4, _⟩ := cells5 e1; obtain ⟨t0, t1, t2, t3, t4, tf⟩ := cells5 e2; have ltr := (Array.getElem?_eq_some_iff.1 e2).1; have E0 := Lib.hid e0; have E1 := Lib.hid e1; have E2 := Lib.hid e2; clear e0 e1 e2))
  clear s1 s2 s3 s4 s5 t5 t6 t7 t8
  have c2 := (B.cell (World.block_lt_of_cell? w _ hy.out)).trans hy.out
  go_wp2_with (first | (go_at_call 21; first | ((with_reducible refine (j0 _).mono ?_); rintro e w' ⟨rfl, rfl⟩)) | (go_at_call 24; refine (none_c _ _ _ _ _ a ha.acc _).mono ?_; rintro e w9 ⟨rfl, b5⟩; have e0 := (b5.block _ (Array.getElem?_eq_some_iff.1 E0.out).1).trans E0.out; have e1 := (b5.block _ (Array.getElem?_eq_some_iff.1 E1.out).1).trans E1.out; have e2 := (b5.block _ ltr).trans E2.out; replace B := Below.then B b5; clear E0 E1 E2 ltr x0 x1 xf y0 y1 y2 y3 y4 t0 t1 t2 t3 t4 tf b5; obtain ⟨x0, x1, xf⟩ := cells2 e0; obtain ⟨y0, y1, y2, y3, y4, _⟩ := cells5 e1; obtain ⟨t0, t1, t2, t3, t4, tf⟩ := cells5 e2; have ltr := (Array.getElem?_eq_some_iff.1 e2).1; have E0 := Lib.hid e0; have E1 := Lib.hid e1; have E2 := Lib.hid e2; clear e0 e1 e2) | (refine bodyPost_ret (retA rfl _ _ _ _ rfl (put5 E2.out _ _ _ _ _) rfl) rfl ⟨_, _, rfl, (hW.out.below B).put5 (w0 := w) (fun b off i e hi => hB _ _ _ e hi) (by omega) _ _ _ _ _, put5_below B (by omega) _ _ _ _ _⟩))
set_option maxHeartbeats 2000000 in
set_option maxRecDepth 100000 in
theorem to_w0 {w : World} {base : Int} (hb0 : 0 ≤ base) (hb1 : base < 4294967296) {ad : Option Addr} {n cap : Nat} {zs : List Int} (hW0 : Wd w ad n cap zs) (hn4 : n ≤ 4096) (a : Wk.Ask) (ha : a.Ok) (hp3 : (a.priv == 3) = false) (hs31 : Wk.bit a.satp 31 = true) {i : Nat} (hp : Wk.place base n (Wk.at_ (Bt.field a.satp 0 22) a.va 1) = some i) (hv : Wk.bit (zs.getD i 0) 0 = true) (h21 : Wk.bit (zs.getD i 0) 2 = true → Wk.bit (zs.getD i 0) 1 = true) (hl : Wk.isLeaf (zs.getD i 0) = false) {j : Nat} (hq : Wk.place base n (Wk.at_ (Wk.frame (zs.getD i 0)) a.va 0) = some j) (hv0 : Wk.bit (zs.getD j 0) 0 = true) (h2 : Wk.bit (zs.getD j 0) 2 = true) (h1 : Wk.bit (zs.getD j 0) 1 = false) :
    Calls Try.prog 13 #[ramv base ad n cap, .agg #[.int .u32 a.va, .int .u32 a.satp, .int .u32 a.status, .int .i64 a.access, .int .i64 a.priv]] w fun e w' => ∃ a' k', e = .returned (ansv 0 (Wk.cause a.access true) false base a' n k') ∧ Wd w' a' n k' zs ∧ Below w.heap.size w w' := by
  have hW := Lib.hid hW0
  have hB : ∀ b off i, ad = some ⟨b, off, none⟩ → i < n → b < w.heap.size := fun b off i e hi => by
    obtain ⟨b', off', e', hc⟩ := hW0.at_ hi
    rw [e] at e'
    cases e'
    exact World.block_lt_of_cell? w _ (hc i hi)
  have f0 := (Bt.field_rng a.satp 0 22).1
  have f1 : Bt.field a.satp 0 22 < 4194304 := (field_small a.satp 0 22 (by decide)).2
  have g0 := (Bt.field_rng a.va 22 10).1
  have g1 : Bt.field a.va 22 10 < 1024 := (field_small a.va 22 10 (by decide)).2
  have hb31 := fun W => bit_c a.satp 31 W ha.satp0 ha.satp1 (by decide) (by decide)
  rw [hs31] at hb31
  have hff := fun W => Ref1.field_c a.satp 0 22 W ha.satp0 ha.satp1 (hidA (by decide))
  have hf22 := fun W => Ref1.field_c a.va 22 10 W ha.va0 ha.va1 (hidA (by decide))
  have hi := (Wk.place_lt hp).1
  have hP1 := fun W => place_c (w := W) (a := ad) (cap := cap) hn4 hb0 hb1 (x := Bt.field a.satp 0 22 * 4096 + 4 * Bt.field a.va 22 10) (by omega) (by omega) (v := (i : Int)) (by have hp' : Wk.place base n (Bt.field a.satp 0 22 * 4096 + 4 * Bt.field a.va 22 10) = some i := hp; show _ = _; rw [hp'])
  obtain ⟨bb, off, rfl, hcell⟩ := hW0.at_ hi
  have hx := Lib.hid (hcell i hi)
  obtain ⟨z0, z1⟩ := hW0.z0 i
  have hi2 : (i : Int) < (n : Int) := by omega
  have hi3 : ¬ (i : Int) < 0 := by omega
  have i0 := fun W => bit_c (zs.getD i 0) 0 W z0 z1 (by decide) (by decide)
  have i1 := fun W => bit_c (zs.getD i 0) 1 W z0 z1 (by decide) (by decide)
  have i2 := fun W => bit_c (zs.getD i 0) 2 W z0 z1 (by decide) (by decide)
  have i3 := fun W => bit_c (zs.getD i 0) 3 W z0 z1 (by decide) (by decide)
  have l1 : Wk.bit (zs.getD i 0) 1 = false := by
    unfold Wk.isLeaf at hl
    cases e1 : Wk.bit (zs.getD i 0) 1 <;> simp_all
  have l3 : Wk.bit (zs.getD i 0) 3 = false := by
    unfold Wk.isLeaf at hl
    cases e1 : Wk.bit (zs.getD i 0) 3 <;> simp_all
  have l2 : Wk.bit (zs.getD i 0) 2 = false := by
    cases e1 : Wk.bit (zs.getD i 0) 2
    · rfl
    · have := h21 e1; rw [l1] at this; cases this
  rw [hv] at i0
  rw [l1] at i1
  rw [l2] at i2
  rw [l3] at i3
  have e0 := (Bt.field_rng (zs.getD i 0) 10 22).1
  have e1 : Bt.field (zs.getD i 0) 10 22 < 4194304 := (field_small (zs.getD i 0) 10 22 (by decide)).2
  have d0 := (Bt.field_rng a.va 12 10).1
  have d1 : Bt.field a.va 12 10 < 1024 := (field_small a.va 12 10 (by decide)).2
  have hfe := fun W => Ref1.field_c (zs.getD i 0) 10 22 W z0 z1 (hidA (by decide))
  have hf12 := fun W => Ref1.field_c a.va 12 10 W ha.va0 ha.va1 (hidA (by decide))
  have hj := (Wk.place_lt hq).1
  have hP0 := fun W => place_c (w := W) (a := (some ⟨bb, off, none⟩)) (cap := cap) hn4 hb0 hb1 (x := Bt.field (zs.getD i 0) 10 22 * 4096 + 4 * Bt.field a.va 12 10) (by omega) (by omega) (v := (j : Int)) (by have hp' : Wk.place base n (Bt.field (zs.getD i 0) 10 22 * 4096 + 4 * Bt.field a.va 12 10) = some j := hq; show _ = _; rw [hp'])
  have hy := Lib.hid (hcell j hj)
  obtain ⟨y0', y1'⟩ := hW0.z0 j
  have hj2 : (j : Int) < (n : Int) := by omega
  have hj3 : ¬ (j : Int) < 0 := by omega
  have j0 := fun W => bit_c (zs.getD j 0) 0 W y0' y1' (by decide) (by decide)
  have j1 := fun W => bit_c (zs.getD j 0) 1 W y0' y1' (by decide) (by decide)
  have j2 := fun W => bit_c (zs.getD j 0) 2 W y0' y1' (by decide) (by decide)
  have j3 := fun W => bit_c (zs.getD j 0) 3 W y0' y1' (by decide) (by decide)
  have hfj := fun W => Ref1.field_c (zs.getD j 0) 10 22 W y0' y1' (hidA (by decide))
  rw [hv0] at j0
  rw [h2] at j2
  rw [h1] at j1
  generalize Bt.field a.satp 0 22 = f at *
  generalize Bt.field a.va 22 10 = fv at *
  generalize Bt.field (zs.getD i 0) 10 22 = fe at *
  generalize Bt.field a.va 12 10 = fv0 at *
  obtain ⟨x, HX⟩ : ∃ x, Hid (zs.getD i 0 = x) := ⟨_, rfl⟩
  rw [HX.out] at hx i0 i1 i2 i3 hfe
  generalize Bt.field (zs.getD j 0) 10 22 = fj at *
  obtain ⟨y, HY⟩ : ∃ y, Hid (zs.getD j 0 = y) := ⟨_, rfl⟩
  rw [HY.out] at hy j0 j1 j2 j3 hfj
  clear hp hs31 hv h21 hl l1 l2 l3 z0 z1 hq hW0 hcell y0' y1' hv0 h2 h1
  go_enter Try.func13, Try.ntmps13
  go_wp2_with (first | (go_at_call 21; first | ((with_reducible refine (hb31 _).mono ?_); rintro e w' ⟨rfl, rfl⟩)) | (go_at_call 22; first | ((with_reducible refine (hff _).mono ?_); rintro e w' ⟨rfl, rfl⟩)))
  refine wp_loop_rounds 3 ?_
  rw [rounds_succ]
  obtain ⟨e0, e1, e2, B⟩ := alloc3_then (Below.refl _ (((w.alloc (.cells #[.int .u32 base, .slice (some ⟨bb, off, none⟩) n cap] 25)).alloc (.cells #[.int .u32 a.va, .int .u32 a.satp, .int .u32 a.status, .int .i64 a.access, .int .i64 a.priv] 27)).alloc (.cells #[.int .u32 0, .int .u32 0, .bool false, .int .u32 0, .slice none 0 0] 36)))
  generalize (((w.alloc (.cells #[.int .u32 base, .slice (some ⟨bb, off, none⟩) n cap] 25)).alloc (.cells #[.int .u32 a.va, .int .u32 a.satp, .int .u32 a.status, .int .i64 a.access, .int .i64 a.priv] 27)).alloc (.cells #[.int .u32 0, .int .u32 0, .bool false, .int .u32 0, .slice none 0 0] 36)) = wA at *
  obtain ⟨x0, x1, xf⟩ := cells2 e0
  obtain ⟨y0, y1, y2, y3, y4, _⟩ := cells5 e1
  obtain ⟨t0, t1, t2, t3, t4, tf⟩ := cells5 e2
  have ltr := (Array.getElem?_eq_some_iff.1 e2).1
  have E0 := Lib.hid e0
  have E1 := Lib.hid e1
  have E2 := Lib.hid e2
  clear e0 e1 e2
  have t5 : IntKind.i64.wrap (10 * 0) = 0 := by decide
  have t6 : IntKind.i64.wrap (22 - 0) = 22 := by decide
  have t7 : IntKind.i64.wrap (22) = 22 := by decide
  have t8 : IntKind.i64.wrap (0) = 0 := by decide
  have s4 : IntKind.u64.wrap f = f := by rw [IntKind.wrap_u64]; omega
  have s5 : IntKind.u64.wrap fv = fv := by rw [IntKind.wrap_u64]; omega
  have s1 : IntKind.u64.wrap (f * 4096) = f * 4096 := by rw [IntKind.wrap_u64]; omega
  have s2 : IntKind.u64.wrap (4 * fv) = 4 * fv := by rw [IntKind.wrap_u64]; omega
  have s3 : IntKind.u64.wrap (f * 4096 + 4 * fv) = f * 4096 + 4 * fv := by rw [IntKind.wrap_u64]; omega
  go_wp2_with fail
  go_region_held3 (fun W => W.cell? ⟨w.heap.size, 0, none⟩ = some (.int .u32 base) ∧ W.cell? ⟨w.heap.size, 1, none⟩ = some (.slice (some ⟨bb, off, none⟩) n cap) ∧ W.cell? ⟨w.heap.size + 1, 0, none⟩ = some (.int .u32 a.va)) (exact ⟨x0, x1, y0⟩) (first | (go_at_call 22; first | ((with_reducible refine (hf22 _).mono ?_); rintro e w' ⟨rfl, rfl⟩)) | (go_at_call 23; (with_reducible refine (hP1 _).mono ?_); rintro e w1 ⟨rfl, b5⟩; clear hP1; (try replace b5 := undrew b5); have e0 := (b5.block _ (Array.getElem?_eq_some_iff.1 E0.out).1).trans E0.out; have e1 := (b5.block _ (Array.getElem?_eq_some_iff.1 E1.out).1).trans E1.out; have e2 := (b5.block _ ltr).trans E2.out; replace B := Below.then B b5; clear E0 E1 E2 ltr x0 x1 xf y0 y1 y2 y3 y4 t0 t1 t2 t3 t4 tf b5; obtain ⟨x0, x1, xf⟩ := cells2 e0; obtain ⟨y0, y1, y2, y3, y4, _⟩ := cells5 e1; obtain ⟨t0, t1, t2, t3, t4, tf⟩ := cells5 e2; have ltr := (Array.getElem?_eq_some_iff.1 e2).1; have E0 := Lib.hid e0; have E1 := Lib.hid e1; have E2 := Lib.hid e2; clear e0 e1 e2))
  clear s1 s2 s3 s4 s5 t5 t6 t7 t8
  have c1 := (B.cell (World.block_lt_of_cell? w _ hx.out)).trans hx.out
  go_wp2_with (first | (go_at_call 21; first | ((with_reducible refine (i0 _).mono ?_); rintro e w' ⟨rfl, rfl⟩) | ((with_reducible refine (i1 _).mono ?_); rintro e w' ⟨rfl, rfl⟩) | ((with_reducible refine (i2 _).mono ?_); rintro e w' ⟨rfl, rfl⟩) | ((with_reducible refine (i3 _).mono ?_); rintro e w' ⟨rfl, rfl⟩)) | (go_at_call 22; first | ((with_reducible refine (hfe _).mono ?_); rintro e w' ⟨rfl, rfl⟩)))
  rw [rounds_succ]
  clear c1
  have t5 : IntKind.i64.wrap (10 * 1) = 10 := by decide
  have t6 : IntKind.i64.wrap (22 - 10) = 12 := by decide
  have t7 : IntKind.i64.wrap (12) = 12 := by decide
  have t8 : IntKind.i64.wrap (10) = 10 := by decide
  have s4 : IntKind.u64.wrap fe = fe := by rw [IntKind.wrap_u64]; omega
  have s5 : IntKind.u64.wrap fv0 = fv0 := by rw [IntKind.wrap_u64]; omega
  have s1 : IntKind.u64.wrap (fe * 4096) = fe * 4096 := by rw [IntKind.wrap_u64]; omega
  have s2 : IntKind.u64.wrap (4 * fv0) = 4 * fv0 := by rw [IntKind.wrap_u64]; omega
  have s3 : IntKind.u64.wrap (fe * 4096 + 4 * fv0) = fe * 4096 + 4 * fv0 := by rw [IntKind.wrap_u64]; omega
  go_wp2_with fail
  go_region_held3 (fun W => W.cell? ⟨w.heap.size, 0, none⟩ = some (.int .u32 base) ∧ W.cell? ⟨w.heap.size, 1, none⟩ = some (.slice (some ⟨bb, off, none⟩) n cap) ∧ W.cell? ⟨w.heap.size + 1, 0, none⟩ = some (.int .u32 a.va)) (exact ⟨x0, x1, y0⟩) (first | (go_at_call 22; first | ((with_reducible refine (hf12 _).mono ?_); rintro e w' ⟨rfl, rfl⟩)) | (go_at_call 23; (with_reducible refine (hP0 _).mono ?_); rintro e w2 ⟨rfl, b5⟩; clear hP0; (try replace b5 := undrew b5); have e0 := (b5.block _ (Array.getElem?_eq_some_iff.1 E0.out).1).trans E0.out; have e1 := (b5.block _ (Array.getElem?_eq_some_iff.1 E1.out).1).trans E1.out; have e2 := (b5.block _ ltr).trans E2.out; replace B := Below.then B b5; clear E0 E1 E2 ltr x0 x1 xf y0 y1 y2 y3 y4 t0 t1 t2 t3 t4 tf b5; obtain ⟨x0, x1, xf⟩ := cells2 e0; obtain ⟨y0, y1, y2, y3, y4, _⟩ := cells5 e1; obtain ⟨t0, t1, t2, t3, t4, tf⟩ := cells5 e2; have ltr := (Array.getElem?_eq_some_iff.1 e2).1; have E0 := Lib.hid e0; have E1 := Lib.hid e1; have E2 := Lib.hid e2; clear e0 e1 e2))
  clear s1 s2 s3 s4 s5 t5 t6 t7 t8
  have c2 := (B.cell (World.block_lt_of_cell? w _ hy.out)).trans hy.out
  go_wp2_with (first | (go_at_call 21; first | ((with_reducible refine (j0 _).mono ?_); rintro e w' ⟨rfl, rfl⟩) | ((with_reducible refine (j1 _).mono ?_); rintro e w' ⟨rfl, rfl⟩) | ((with_reducible refine (j2 _).mono ?_); rintro e w' ⟨rfl, rfl⟩)) | (go_at_call 24; refine (none_c _ _ _ _ _ a ha.acc _).mono ?_; rintro e w9 ⟨rfl, b5⟩; have e0 := (b5.block _ (Array.getElem?_eq_some_iff.1 E0.out).1).trans E0.out; have e1 := (b5.block _ (Array.getElem?_eq_some_iff.1 E1.out).1).trans E1.out; have e2 := (b5.block _ ltr).trans E2.out; replace B := Below.then B b5; clear E0 E1 E2 ltr x0 x1 xf y0 y1 y2 y3 y4 t0 t1 t2 t3 t4 tf b5; obtain ⟨x0, x1, xf⟩ := cells2 e0; obtain ⟨y0, y1, y2, y3, y4, _⟩ := cells5 e1; obtain ⟨t0, t1, t2, t3, t4, tf⟩ := cells5 e2; have ltr := (Array.getElem?_eq_some_iff.1 e2).1; have E0 := Lib.hid e0; have E1 := Lib.hid e1; have E2 := Lib.hid e2; clear e0 e1 e2) | (refine bodyPost_ret (retA rfl _ _ _ _ rfl (put5 E2.out _ _ _ _ _) rfl) rfl ⟨_, _, rfl, (hW.out.below B).put5 (w0 := w) (fun b off i e hi => hB _ _ _ e hi) (by omega) _ _ _ _ _, put5_below B (by omega) _ _ _ _ _⟩))
set_option maxHeartbeats 2000000 in
set_option maxRecDepth 100000 in
theorem to_l0 {w : World} {base : Int} (hb0 : 0 ≤ base) (hb1 : base < 4294967296) {ad : Option Addr} {n cap : Nat} {zs : List Int} (hW0 : Wd w ad n cap zs) (hn4 : n ≤ 4096) (a : Wk.Ask) (ha : a.Ok) (hp3 : (a.priv == 3) = false) (hs31 : Wk.bit a.satp 31 = true) {i : Nat} (hp : Wk.place base n (Wk.at_ (Bt.field a.satp 0 22) a.va 1) = some i) (hv : Wk.bit (zs.getD i 0) 0 = true) (h21 : Wk.bit (zs.getD i 0) 2 = true → Wk.bit (zs.getD i 0) 1 = true) (hl : Wk.isLeaf (zs.getD i 0) = false) {j : Nat} (hq : Wk.place base n (Wk.at_ (Wk.frame (zs.getD i 0)) a.va 0) = some j) (hv0 : Wk.bit (zs.getD j 0) 0 = true) (k21 : Wk.bit (zs.getD j 0) 2 = true → Wk.bit (zs.getD j 0) 1 = true) (hl0 : Wk.isLeaf (zs.getD j 0) = true) {pa c : Int} {t : Bool} {zs' : List Int} (q : Hid (Wk.fin zs a j false = ⟨pa, c, t, zs'⟩)) :
    Calls Try.prog 13 #[ramv base ad n cap, .agg #[.int .u32 a.va, .int .u32 a.satp, .int .u32 a.status, .int .i64 a.access, .int .i64 a.priv]] w fun e w' => ∃ a' k', e = .returned (ansv pa c t base a' n k') ∧ Wd w' a' n k' zs' ∧ Below w.heap.size w w' := by
  have hW := Lib.hid hW0
  have hB : ∀ b off i, ad = some ⟨b, off, none⟩ → i < n → b < w.heap.size := fun b off i e hi => by
    obtain ⟨b', off', e', hc⟩ := hW0.at_ hi
    rw [e] at e'
    cases e'
    exact World.block_lt_of_cell? w _ (hc i hi)
  have f0 := (Bt.field_rng a.satp 0 22).1
  have f1 : Bt.field a.satp 0 22 < 4194304 := (field_small a.satp 0 22 (by decide)).2
  have g0 := (Bt.field_rng a.va 22 10).1
  have g1 : Bt.field a.va 22 10 < 1024 := (field_small a.va 22 10 (by decide)).2
  have hb31 := fun W => bit_c a.satp 31 W ha.satp0 ha.satp1 (by decide) (by decide)
  rw [hs31] at hb31
  have hff := fun W => Ref1.field_c a.satp 0 22 W ha.satp0 ha.satp1 (hidA (by decide))
  have hf22 := fun W => Ref1.field_c a.va 22 10 W ha.va0 ha.va1 (hidA (by decide))
  have hi := (Wk.place_lt hp).1
  have hP1 := fun W => place_c (w := W) (a := ad) (cap := cap) hn4 hb0 hb1 (x := Bt.field a.satp 0 22 * 4096 + 4 * Bt.field a.va 22 10) (by omega) (by omega) (v := (i : Int)) (by have hp' : Wk.place base n (Bt.field a.satp 0 22 * 4096 + 4 * Bt.field a.va 22 10) = some i := hp; show _ = _; rw [hp'])
  obtain ⟨bb, off, rfl, hcell⟩ := hW0.at_ hi
  have hx := Lib.hid (hcell i hi)
  obtain ⟨z0, z1⟩ := hW0.z0 i
  have hi2 : (i : Int) < (n : Int) := by omega
  have hi3 : ¬ (i : Int) < 0 := by omega
  have i0 := fun W => bit_c (zs.getD i 0) 0 W z0 z1 (by decide) (by decide)
  have i1 := fun W => bit_c (zs.getD i 0) 1 W z0 z1 (by decide) (by decide)
  have i2 := fun W => bit_c (zs.getD i 0) 2 W z0 z1 (by decide) (by decide)
  have i3 := fun W => bit_c (zs.getD i 0) 3 W z0 z1 (by decide) (by decide)
  have l1 : Wk.bit (zs.getD i 0) 1 = false := by
    unfold Wk.isLeaf at hl
    cases e1 : Wk.bit (zs.getD i 0) 1 <;> simp_all
  have l3 : Wk.bit (zs.getD i 0) 3 = false := by
    unfold Wk.isLeaf at hl
    cases e1 : Wk.bit (zs.getD i 0) 3 <;> simp_all
  have l2 : Wk.bit (zs.getD i 0) 2 = false := by
    cases e1 : Wk.bit (zs.getD i 0) 2
    · rfl
    · have := h21 e1; rw [l1] at this; cases this
  rw [hv] at i0
  rw [l1] at i1
  rw [l2] at i2
  rw [l3] at i3
  have e0 := (Bt.field_rng (zs.getD i 0) 10 22).1
  have e1 : Bt.field (zs.getD i 0) 10 22 < 4194304 := (field_small (zs.getD i 0) 10 22 (by decide)).2
  have d0 := (Bt.field_rng a.va 12 10).1
  have d1 : Bt.field a.va 12 10 < 1024 := (field_small a.va 12 10 (by decide)).2
  have hfe := fun W => Ref1.field_c (zs.getD i 0) 10 22 W z0 z1 (hidA (by decide))
  have hf12 := fun W => Ref1.field_c a.va 12 10 W ha.va0 ha.va1 (hidA (by decide))
  have hj := (Wk.place_lt hq).1
  have hP0 := fun W => place_c (w := W) (a := (some ⟨bb, off, none⟩)) (cap := cap) hn4 hb0 hb1 (x := Bt.field (zs.getD i 0) 10 22 * 4096 + 4 * Bt.field a.va 12 10) (by omega) (by omega) (v := (j : Int)) (by have hp' : Wk.place base n (Bt.field (zs.getD i 0) 10 22 * 4096 + 4 * Bt.field a.va 12 10) = some j := hq; show _ = _; rw [hp'])
  have hy := Lib.hid (hcell j hj)
  obtain ⟨y0', y1'⟩ := hW0.z0 j
  have hj2 : (j : Int) < (n : Int) := by omega
  have hj3 : ¬ (j : Int) < 0 := by omega
  have j0 := fun W => bit_c (zs.getD j 0) 0 W y0' y1' (by decide) (by decide)
  have j1 := fun W => bit_c (zs.getD j 0) 1 W y0' y1' (by decide) (by decide)
  have j2 := fun W => bit_c (zs.getD j 0) 2 W y0' y1' (by decide) (by decide)
  have j3 := fun W => bit_c (zs.getD j 0) 3 W y0' y1' (by decide) (by decide)
  have hfj := fun W => Ref1.field_c (zs.getD j 0) 10 22 W y0' y1' (hidA (by decide))
  have hL := fun W (p : Wd W (some ⟨bb, off, none⟩) n cap zs) => leaf_any (base := base) p hn4 a ha hj false q
  rw [hv0] at j0
  have key : (Wk.bit (zs.getD j 0) 2 = false ∧ Wk.bit (zs.getD j 0) 1 = true) ∨ (Wk.bit (zs.getD j 0) 2 = true ∧ Wk.bit (zs.getD j 0) 1 = true) ∨ (Wk.bit (zs.getD j 0) 2 = false ∧ Wk.bit (zs.getD j 0) 1 = false ∧ Wk.bit (zs.getD j 0) 3 = true) := by
    unfold Wk.isLeaf at hl0
    cases e2 : Wk.bit (zs.getD j 0) 2 <;> cases e1 : Wk.bit (zs.getD j 0) 1 <;> cases e3 : Wk.bit (zs.getD j 0) 3 <;> simp_all
  generalize Bt.field a.satp 0 22 = f at *
  generalize Bt.field a.va 22 10 = fv at *
  generalize Bt.field (zs.getD i 0) 10 22 = fe at *
  generalize Bt.field a.va 12 10 = fv0 at *
  obtain ⟨x, HX⟩ : ∃ x, Hid (zs.getD i 0 = x) := ⟨_, rfl⟩
  rw [HX.out] at hx i0 i1 i2 i3 hfe
  generalize Bt.field (zs.getD j 0) 10 22 = fj at *
  obtain ⟨y, HY⟩ : ∃ y, Hid (zs.getD j 0 = y) := ⟨_, rfl⟩
  rw [HY.out] at hy j0 j1 j2 j3 hfj key
  generalize Wk.bit y 1 = b1 at *
  generalize Wk.bit y 2 = b2 at *
  generalize Wk.bit y 3 = b3 at *
  clear hp hs31 hv h21 hl l1 l2 l3 z0 z1 hq hW0 hcell y0' y1' hv0 k21 hl0 q
  rcases key with ⟨rfl, rfl⟩ | ⟨rfl, rfl⟩ | ⟨rfl, rfl, rfl⟩
  all_goals
    go_enter Try.func13, Try.ntmps13
    go_wp2_with (first | (go_at_call 21; first | ((with_reducible refine (hb31 _).mono ?_); rintro e w' ⟨rfl, rfl⟩)) | (go_at_call 22; first | ((with_reducible refine (hff _).mono ?_); rintro e w' ⟨rfl, rfl⟩)))
    refine wp_loop_rounds 3 ?_
    rw [rounds_succ]
    obtain ⟨e0, e1, e2, B⟩ := alloc3_then (Below.refl _ (((w.alloc (.cells #[.int .u32 base, .slice (some ⟨bb, off, none⟩) n cap] 25)).alloc (.cells #[.int .u32 a.va, .int .u32 a.satp, .int .u32 a.status, .int .i64 a.access, .int .i64 a.priv] 27)).alloc (.cells #[.int .u32 0, .int .u32 0, .bool false, .int .u32 0, .slice none 0 0] 36)))
    generalize (((w.alloc (.cells #[.int .u32 base, .slice (some ⟨bb, off, none⟩) n cap] 25)).alloc (.cells #[.int .u32 a.va, .int .u32 a.satp, .int .u32 a.status, .int .i64 a.access, .int .i64 a.priv] 27)).alloc (.cells #[.int .u32 0, .int .u32 0, .bool false, .int .u32 0, .slice none 0 0] 36)) = wA at *
    obtain ⟨x0, x1, xf⟩ := cells2 e0
    obtain ⟨y0, y1, y2, y3, y4, _⟩ := cells5 e1
    obtain ⟨t0, t1, t2, t3, t4, tf⟩ := cells5 e2
    have ltr := (Array.getElem?_eq_some_iff.1 e2).1
    have E0 := Lib.hid e0
    have E1 := Lib.hid e1
    have E2 := Lib.hid e2
    clear e0 e1 e2
    have t5 : IntKind.i64.wrap (10 * 0) = 0 := by decide
    have t6 : IntKind.i64.wrap (22 - 0) = 22 := by decide
    have t7 : IntKind.i64.wrap (22) = 22 := by decide
    have t8 : IntKind.i64.wrap (0) = 0 := by decide
    have s4 : IntKind.u64.wrap f = f := by rw [IntKind.wrap_u64]; omega
    have s5 : IntKind.u64.wrap fv = fv := by rw [IntKind.wrap_u64]; omega
    have s1 : IntKind.u64.wrap (f * 4096) = f * 4096 := by rw [IntKind.wrap_u64]; omega
    have s2 : IntKind.u64.wrap (4 * fv) = 4 * fv := by rw [IntKind.wrap_u64]; omega
    have s3 : IntKind.u64.wrap (f * 4096 + 4 * fv) = f * 4096 + 4 * fv := by rw [IntKind.wrap_u64]; omega
    go_wp2_with fail
    go_region_held3 (fun W => W.cell? ⟨w.heap.size, 0, none⟩ = some (.int .u32 base) ∧ W.cell? ⟨w.heap.size, 1, none⟩ = some (.slice (some ⟨bb, off, none⟩) n cap) ∧ W.cell? ⟨w.heap.size + 1, 0, none⟩ = some (.int .u32 a.va)) (exact ⟨x0, x1, y0⟩) (first | (go_at_call 22; first | ((with_reducible refine (hf22 _).mono ?_); rintro e w' ⟨rfl, rfl⟩)) | (go_at_call 23; (with_reducible refine (hP1 _).mono ?_); rintro e w1 ⟨rfl, b5⟩; clear hP1; (try replace b5 := undrew b5); have e0 := (b5.block _ (Array.getElem?_eq_some_iff.1 E0.out).1).trans E0.out; have e1 := (b5.block _ (Array.getElem?_eq_some_iff.1 E1.out).1).trans E1.out; have e2 := (b5.block _ ltr).trans E2.out; replace B := Below.then B b5; clear E0 E1 E2 ltr x0 x1 xf y0 y1 y2 y3 y4 t0 t1 t2 t3 t4 tf b5; obtain ⟨x0, x1, xf⟩ := cells2 e0; obtain ⟨y0, y1, y2, y3, y4, _⟩ := cells5 e1; obtain ⟨t0, t1, t2, t3, t4, tf⟩ := cells5 e2; have ltr := (Array.getElem?_eq_some_iff.1 e2).1; have E0 := Lib.hid e0; have E1 := Lib.hid e1; have E2 := Lib.hid e2; clear e0 e1 e2))
    clear s1 s2 s3 s4 s5 t5 t6 t7 t8
    have c1 := (B.cell (World.block_lt_of_cell? w _ hx.out)).trans hx.out
    go_wp2_with (first | (go_at_call 21; first | ((with_reducible refine (i0 _).mono ?_); rintro e w' ⟨rfl, rfl⟩) | ((with_reducible refine (i1 _).mono ?_); rintro e w' ⟨rfl, rfl⟩) | ((with_reducible refine (i2 _).mono ?_); rintro e w' ⟨rfl, rfl⟩) | ((with_reducible refine (i3 _).mono ?_); rintro e w' ⟨rfl, rfl⟩)) | (go_at_call 22; first | ((with_reducible refine (hfe _).mono ?_); rintro e w' ⟨rfl, rfl⟩)))
    rw [rounds_succ]
    clear c1
    have t5 : IntKind.i64.wrap (10 * 1) = 10 := by decide
    have t6 : IntKind.i64.wrap (22 - 10) = 12 := by decide
    have t7 : IntKind.i64.wrap (12) = 12 := by decide
    have t8 : IntKind.i64.wrap (10) = 10 := by decide
    have s4 : IntKind.u64.wrap fe = fe := by rw [IntKind.wrap_u64]; omega
    have s5 : IntKind.u64.wrap fv0 = fv0 := by rw [IntKind.wrap_u64]; omega
    have s1 : IntKind.u64.wrap (fe * 4096) = fe * 4096 := by rw [IntKind.wrap_u64]; omega
    have s2 : IntKind.u64.wrap (4 * fv0) = 4 * fv0 := by rw [IntKind.wrap_u64]; omega
    have s3 : IntKind.u64.wrap (fe * 4096 + 4 * fv0) = fe * 4096 + 4 * fv0 := by rw [IntKind.wrap_u64]; omega
    go_wp2_with fail
    go_region_held3 (fun W => W.cell? ⟨w.heap.size, 0, none⟩ = some (.int .u32 base) ∧ W.cell? ⟨w.heap.size, 1, none⟩ = some (.slice (some ⟨bb, off, none⟩) n cap) ∧ W.cell? ⟨w.heap.size + 1, 0, none⟩ = some (.int .u32 a.va)) (exact ⟨x0, x1, y0⟩) (first | (go_at_call 22; first | ((with_reducible refine (hf12 _).mono ?_); rintro e w' ⟨rfl, rfl⟩)) | (go_at_call 23; (with_reducible refine (hP0 _).mono ?_); rintro e w2 ⟨rfl, b5⟩; clear hP0; (try replace b5 := undrew b5); have e0 := (b5.block _ (Array.getElem?_eq_some_iff.1 E0.out).1).trans E0.out; have e1 := (b5.block _ (Array.getElem?_eq_some_iff.1 E1.out).1).trans E1.out; have e2 := (b5.block _ ltr).trans E2.out; replace B := Below.then B b5; clear E0 E1 E2 ltr x0 x1 xf y0 y1 y2 y3 y4 t0 t1 t2 t3 t4 tf b5; obtain ⟨x0, x1, xf⟩ := cells2 e0; obtain ⟨y0, y1, y2, y3, y4, _⟩ := cells5 e1; obtain ⟨t0, t1, t2, t3, t4, tf⟩ := cells5 e2; have ltr := (Array.getElem?_eq_some_iff.1 e2).1; have E0 := Lib.hid e0; have E1 := Lib.hid e1; have E2 := Lib.hid e2; clear e0 e1 e2))
    clear s1 s2 s3 s4 s5 t5 t6 t7 t8
    have c2 := (B.cell (World.block_lt_of_cell? w _ hy.out)).trans hy.out
    go_wp2_with (first | (go_at_call 21; first | ((with_reducible refine (j0 _).mono ?_); rintro e w' ⟨rfl, rfl⟩) | ((with_reducible refine (j1 _).mono ?_); rintro e w' ⟨rfl, rfl⟩) | ((with_reducible refine (j2 _).mono ?_); rintro e w' ⟨rfl, rfl⟩) | ((with_reducible refine (j3 _).mono ?_); rintro e w' ⟨rfl, rfl⟩)) | (go_at_call 25; refine (hL _ (hW.out.below B)).mono ?_; rintro e w9 ⟨a', k', rfl, WF, WA, b5⟩; have hbs := b5.size; have ltq := ltr; have e0 := (b5.block _ (Array.getElem?_eq_some_iff.1 E0.out).1).trans E0.out; have e1 := (b5.block _ (Array.getElem?_eq_some_iff.1 E1.out).1).trans E1.out; have e2 := (b5.block _ ltr).trans E2.out; replace B := Below.then B b5; clear E0 E1 E2 ltr x0 x1 xf y0 y1 y2 y3 y4 t0 t1 t2 t3 t4 tf b5; obtain ⟨x0, x1, xf⟩ := cells2 e0; obtain ⟨y0, y1, y2, y3, y4, _⟩ := cells5 e1; obtain ⟨t0, t1, t2, t3, t4, tf⟩ := cells5 e2; have ltr := (Array.getElem?_eq_some_iff.1 e2).1; have E0 := Lib.hid e0; have E1 := Lib.hid e1; have E2 := Lib.hid e2; clear e0 e1 e2) | (refine bodyPost_ret (retA rfl _ _ _ _ rfl (put5 E2.out _ _ _ _ _) rfl) rfl ⟨_, _, rfl, WF.put5x (fun b off i e hi => by rcases WA with h | h; exact Nat.ne_of_lt (Nat.lt_of_lt_of_le (hB b off i (h ▸ e) hi) (by omega)); (have := h _ e; show ¬ b = _; simp only at this; omega)) _ _ _ _ _, put5_below B (by omega) _ _ _ _ _⟩))
set_option maxHeartbeats 2000000 in
set_option maxRecDepth 100000 in
theorem to_end {w : World} {base : Int} (hb0 : 0 ≤ base) (hb1 : base < 4294967296) {ad : Option Addr} {n cap : Nat} {zs : List Int} (hW0 : Wd w ad n cap zs) (hn4 : n ≤ 4096) (a : Wk.Ask) (ha : a.Ok) (hp3 : (a.priv == 3) = false) (hs31 : Wk.bit a.satp 31 = true) {i : Nat} (hp : Wk.place base n (Wk.at_ (Bt.field a.satp 0 22) a.va 1) = some i) (hv : Wk.bit (zs.getD i 0) 0 = true) (h21 : Wk.bit (zs.getD i 0) 2 = true → Wk.bit (zs.getD i 0) 1 = true) (hl : Wk.isLeaf (zs.getD i 0) = false) {j : Nat} (hq : Wk.place base n (Wk.at_ (Wk.frame (zs.getD i 0)) a.va 0) = some j) (hv0 : Wk.bit (zs.getD j 0) 0 = true) (k21 : Wk.bit (zs.getD j 0) 2 = true → Wk.bit (zs.getD j 0) 1 = true) (hl0 : Wk.isLeaf (zs.getD j 0) = false) :
    Calls Try.prog 13 #[ramv base ad n cap, .agg #[.int .u32 a.va, .int .u32 a.satp, .int .u32 a.status, .int .i64 a.access, .int .i64 a.priv]] w fun e w' => ∃ a' k', e = .returned (ansv 0 (Wk.cause a.access true) false base a' n k') ∧ Wd w' a' n k' zs ∧ Below w.heap.size w w' := by
  have hW := Lib.hid hW0
  have hB : ∀ b off i, ad = some ⟨b, off, none⟩ → i < n → b < w.heap.size := fun b off i e hi => by
    obtain ⟨b', off', e', hc⟩ := hW0.at_ hi
    rw [e] at e'
    cases e'
    exact World.block_lt_of_cell? w _ (hc i hi)
  have f0 := (Bt.field_rng a.satp 0 22).1
  have f1 : Bt.field a.satp 0 22 < 4194304 := (field_small a.satp 0 22 (by decide)).2
  have g0 := (Bt.field_rng a.va 22 10).1
  have g1 : Bt.field a.va 22 10 < 1024 := (field_small a.va 22 10 (by decide)).2
  have hb31 := fun W => bit_c a.satp 31 W ha.satp0 ha.satp1 (by decide) (by decide)
  rw [hs31] at hb31
  have hff := fun W => Ref1.field_c a.satp 0 22 W ha.satp0 ha.satp1 (hidA (by decide))
  have hf22 := fun W => Ref1.field_c a.va 22 10 W ha.va0 ha.va1 (hidA (by decide))
  have hi := (Wk.place_lt hp).1
  have hP1 := fun W => place_c (w := W) (a := ad) (cap := cap) hn4 hb0 hb1 (x := Bt.field a.satp 0 22 * 4096 + 4 * Bt.field a.va 22 10) (by omega) (by omega) (v := (i : Int)) (by have hp' : Wk.place base n (Bt.field a.satp 0 22 * 4096 + 4 * Bt.field a.va 22 10) = some i := hp; show _ = _; rw [hp'])
  obtain ⟨bb, off, rfl, hcell⟩ := hW0.at_ hi
  have hx := Lib.hid (hcell i hi)
  obtain ⟨z0, z1⟩ := hW0.z0 i
  have hi2 : (i : Int) < (n : Int) := by omega
  have hi3 : ¬ (i : Int) < 0 := by omega
  have i0 := fun W => bit_c (zs.getD i 0) 0 W z0 z1 (by decide) (by decide)
  have i1 := fun W => bit_c (zs.getD i 0) 1 W z0 z1 (by decide) (by decide)
  have i2 := fun W => bit_c (zs.getD i 0) 2 W z0 z1 (by decide) (by decide)
  have i3 := fun W => bit_c (zs.getD i 0) 3 W z0 z1 (by decide) (by decide)
  have l1 : Wk.bit (zs.getD i 0) 1 = false := by
    unfold Wk.isLeaf at hl
    cases e1 : Wk.bit (zs.getD i 0) 1 <;> simp_all
  have l3 : Wk.bit (zs.getD i 0) 3 = false := by
    unfold Wk.isLeaf at hl
    cases e1 : Wk.bit (zs.getD i 0) 3 <;> simp_all
  have l2 : Wk.bit (zs.getD i 0) 2 = false := by
    cases e1 : Wk.bit (zs.getD i 0) 2
    · rfl
    · have := h21 e1; rw [l1] at this; cases this
  rw [hv] at i0
  rw [l1] at i1
  rw [l2] at i2
  rw [l3] at i3
  have e0 := (Bt.field_rng (zs.getD i 0) 10 22).1
  have e1 : Bt.field (zs.getD i 0) 10 22 < 4194304 := (field_small (zs.getD i 0) 10 22 (by decide)).2
  have d0 := (Bt.field_rng a.va 12 10).1
  have d1 : Bt.field a.va 12 10 < 1024 := (field_small a.va 12 10 (by decide)).2
  have hfe := fun W => Ref1.field_c (zs.getD i 0) 10 22 W z0 z1 (hidA (by decide))
  have hf12 := fun W => Ref1.field_c a.va 12 10 W ha.va0 ha.va1 (hidA (by decide))
  have hj := (Wk.place_lt hq).1
  have hP0 := fun W => place_c (w := W) (a := (some ⟨bb, off, none⟩)) (cap := cap) hn4 hb0 hb1 (x := Bt.field (zs.getD i 0) 10 22 * 4096 + 4 * Bt.field a.va 12 10) (by omega) (by omega) (v := (j : Int)) (by have hp' : Wk.place base n (Bt.field (zs.getD i 0) 10 22 * 4096 + 4 * Bt.field a.va 12 10) = some j := hq; show _ = _; rw [hp'])
  have hy := Lib.hid (hcell j hj)
  obtain ⟨y0', y1'⟩ := hW0.z0 j
  have hj2 : (j : Int) < (n : Int) := by omega
  have hj3 : ¬ (j : Int) < 0 := by omega
  have j0 := fun W => bit_c (zs.getD j 0) 0 W y0' y1' (by decide) (by decide)
  have j1 := fun W => bit_c (zs.getD j 0) 1 W y0' y1' (by decide) (by decide)
  have j2 := fun W => bit_c (zs.getD j 0) 2 W y0' y1' (by decide) (by decide)
  have j3 := fun W => bit_c (zs.getD j 0) 3 W y0' y1' (by decide) (by decide)
  have hfj := fun W => Ref1.field_c (zs.getD j 0) 10 22 W y0' y1' (hidA (by decide))
  have m1 : Wk.bit (zs.getD j 0) 1 = false := by
    unfold Wk.isLeaf at hl0
    cases e1 : Wk.bit (zs.getD j 0) 1 <;> simp_all
  have m3 : Wk.bit (zs.getD j 0) 3 = false := by
    unfold Wk.isLeaf at hl0
    cases e1 : Wk.bit (zs.getD j 0) 3 <;> simp_all
  have m2 : Wk.bit (zs.getD j 0) 2 = false := by
    cases e1 : Wk.bit (zs.getD j 0) 2
    · rfl
    · have := k21 e1; rw [m1] at this; cases this
  rw [hv0] at j0
  rw [m1] at j1
  rw [m2] at j2
  rw [m3] at j3
  generalize Bt.field a.satp 0 22 = f at *
  generalize Bt.field a.va 22 10 = fv at *
  generalize Bt.field (zs.getD i 0) 10 22 = fe at *
  generalize Bt.field a.va 12 10 = fv0 at *
  obtain ⟨x, HX⟩ : ∃ x, Hid (zs.getD i 0 = x) := ⟨_, rfl⟩
  rw [HX.out] at hx i0 i1 i2 i3 hfe
  generalize Bt.field (zs.getD j 0) 10 22 = fj at *
  obtain ⟨y, HY⟩ : ∃ y, Hid (zs.getD j 0 = y) := ⟨_, rfl⟩
  rw [HY.out] at hy j0 j1 j2 j3 hfj
  clear hp hs31 hv h21 hl l1 l2 l3 z0 z1 hq hW0 hcell y0' y1' hv0 k21 hl0 m1 m2 m3
  go_enter Try.func13, Try.ntmps13
  go_wp2_with (first | (go_at_call 21; first | ((with_reducible refine (hb31 _).mono ?_); rintro e w' ⟨rfl, rfl⟩)) | (go_at_call 22; first | ((with_reducible refine (hff _).mono ?_); rintro e w' ⟨rfl, rfl⟩)))
  refine wp_loop_rounds 3 ?_
  rw [rounds_succ]
  obtain ⟨e0, e1, e2, B⟩ := alloc3_then (Below.refl _ (((w.alloc (.cells #[.int .u32 base, .slice (some ⟨bb, off, none⟩) n cap] 25)).alloc (.cells #[.int .u32 a.va, .int .u32 a.satp, .int .u32 a.status, .int .i64 a.access, .int .i64 a.priv] 27)).alloc (.cells #[.int .u32 0, .int .u32 0, .bool false, .int .u32 0, .slice none 0 0] 36)))
  generalize (((w.alloc (.cells #[.int .u32 base, .slice (some ⟨bb, off, none⟩) n cap] 25)).alloc (.cells #[.int .u32 a.va, .int .u32 a.satp, .int .u32 a.status, .int .i64 a.access, .int .i64 a.priv] 27)).alloc (.cells #[.int .u32 0, .int .u32 0, .bool false, .int .u32 0, .slice none 0 0] 36)) = wA at *
  obtain ⟨x0, x1, xf⟩ := cells2 e0
  obtain ⟨y0, y1, y2, y3, y4, _⟩ := cells5 e1
  obtain ⟨t0, t1, t2, t3, t4, tf⟩ := cells5 e2
  have ltr := (Array.getElem?_eq_some_iff.1 e2).1
  have E0 := Lib.hid e0
  have E1 := Lib.hid e1
  have E2 := Lib.hid e2
  clear e0 e1 e2
  have t5 : IntKind.i64.wrap (10 * 0) = 0 := by decide
  have t6 : IntKind.i64.wrap (22 - 0) = 22 := by decide
  have t7 : IntKind.i64.wrap (22) = 22 := by decide
  have t8 : IntKind.i64.wrap (0) = 0 := by decide
  have s4 : IntKind.u64.wrap f = f := by rw [IntKind.wrap_u64]; omega
  have s5 : IntKind.u64.wrap fv = fv := by rw [IntKind.wrap_u64]; omega
  have s1 : IntKind.u64.wrap (f * 4096) = f * 4096 := by rw [IntKind.wrap_u64]; omega
  have s2 : IntKind.u64.wrap (4 * fv) = 4 * fv := by rw [IntKind.wrap_u64]; omega
  have s3 : IntKind.u64.wrap (f * 4096 + 4 * fv) = f * 4096 + 4 * fv := by rw [IntKind.wrap_u64]; omega
  go_wp2_with fail
  go_region_held3 (fun W => W.cell? ⟨w.heap.size, 0, none⟩ = some (.int .u32 base) ∧ W.cell? ⟨w.heap.size, 1, none⟩ = some (.slice (some ⟨bb, off, none⟩) n cap) ∧ W.cell? ⟨w.heap.size + 1, 0, none⟩ = some (.int .u32 a.va)) (exact ⟨x0, x1, y0⟩) (first | (go_at_call 22; first | ((with_reducible refine (hf22 _).mono ?_); rintro e w' ⟨rfl, rfl⟩)) | (go_at_call 23; (with_reducible refine (hP1 _).mono ?_); rintro e w1 ⟨rfl, b5⟩; clear hP1; (try replace b5 := undrew b5); have e0 := (b5.block _ (Array.getElem?_eq_some_iff.1 E0.out).1).trans E0.out; have e1 := (b5.block _ (Array.getElem?_eq_some_iff.1 E1.out).1).trans E1.out; have e2 := (b5.block _ ltr).trans E2.out; replace B := Below.then B b5; clear E0 E1 E2 ltr x0 x1 xf y0 y1 y2 y3 y4 t0 t1 t2 t3 t4 tf b5; obtain ⟨x0, x1, xf⟩ := cells2 e0; obtain ⟨y0, y1, y2, y3, y4, _⟩ := cells5 e1; obtain ⟨t0, t1, t2, t3, t4, tf⟩ := cells5 e2; have ltr := (Array.getElem?_eq_some_iff.1 e2).1; have E0 := Lib.hid e0; have E1 := Lib.hid e1; have E2 := Lib.hid e2; clear e0 e1 e2))
  clear s1 s2 s3 s4 s5 t5 t6 t7 t8
  have c1 := (B.cell (World.block_lt_of_cell? w _ hx.out)).trans hx.out
  go_wp2_with (first | (go_at_call 21; first | ((with_reducible refine (i0 _).mono ?_); rintro e w' ⟨rfl, rfl⟩) | ((with_reducible refine (i1 _).mono ?_); rintro e w' ⟨rfl, rfl⟩) | ((with_reducible refine (i2 _).mono ?_); rintro e w' ⟨rfl, rfl⟩) | ((with_reducible refine (i3 _).mono ?_); rintro e w' ⟨rfl, rfl⟩)) | (go_at_call 22; first | ((with_reducible refine (hfe _).mono ?_); rintro e w' ⟨rfl, rfl⟩)))
  rw [rounds_succ]
  clear c1
  have t5 : IntKind.i64.wrap (10 * 1) = 10 := by decide
  have t6 : IntKind.i64.wrap (22 - 10) = 12 := by decide
  have t7 : IntKind.i64.wrap (12) = 12 := by decide
  have t8 : IntKind.i64.wrap (10) = 10 := by decide
  have s4 : IntKind.u64.wrap fe = fe := by rw [IntKind.wrap_u64]; omega
  have s5 : IntKind.u64.wrap fv0 = fv0 := by rw [IntKind.wrap_u64]; omega
  have s1 : IntKind.u64.wrap (fe * 4096) = fe * 4096 := by rw [IntKind.wrap_u64]; omega
  have s2 : IntKind.u64.wrap (4 * fv0) = 4 * fv0 := by rw [IntKind.wrap_u64]; omega
  have s3 : IntKind.u64.wrap (fe * 4096 + 4 * fv0) = fe * 4096 + 4 * fv0 := by rw [IntKind.wrap_u64]; omega
  go_wp2_with fail
  go_region_held3 (fun W => W.cell? ⟨w.heap.size, 0, none⟩ = some (.int .u32 base) ∧ W.cell? ⟨w.heap.size, 1, none⟩ = some (.slice (some ⟨bb, off, none⟩) n cap) ∧ W.cell? ⟨w.heap.size + 1, 0, none⟩ = some (.int .u32 a.va)) (exact ⟨x0, x1, y0⟩) (first | (go_at_call 22; first | ((with_reducible refine (hf12 _).mono ?_); rintro e w' ⟨rfl, rfl⟩)) | (go_at_call 23; (with_reducible refine (hP0 _).mono ?_); rintro e w2 ⟨rfl, b5⟩; clear hP0; (try replace b5 := undrew b5); have e0 := (b5.block _ (Array.getElem?_eq_some_iff.1 E0.out).1).trans E0.out; have e1 := (b5.block _ (Array.getElem?_eq_some_iff.1 E1.out).1).trans E1.out; have e2 := (b5.block _ ltr).trans E2.out; replace B := Below.then B b5; clear E0 E1 E2 ltr x0 x1 xf y0 y1 y2 y3 y4 t0 t1 t2 t3 t4 tf b5; obtain ⟨x0, x1, xf⟩ := cells2 e0; obtain ⟨y0, y1, y2, y3, y4, _⟩ := cells5 e1; obtain ⟨t0, t1, t2, t3, t4, tf⟩ := cells5 e2; have ltr := (Array.getElem?_eq_some_iff.1 e2).1; have E0 := Lib.hid e0; have E1 := Lib.hid e1; have E2 := Lib.hid e2; clear e0 e1 e2))
  clear s1 s2 s3 s4 s5 t5 t6 t7 t8
  have c2 := (B.cell (World.block_lt_of_cell? w _ hy.out)).trans hy.out
  go_wp2_with (first | (go_at_call 21; first | ((with_reducible refine (j0 _).mono ?_); rintro e w' ⟨rfl, rfl⟩) | ((with_reducible refine (j1 _).mono ?_); rintro e w' ⟨rfl, rfl⟩) | ((with_reducible refine (j2 _).mono ?_); rintro e w' ⟨rfl, rfl⟩) | ((with_reducible refine (j3 _).mono ?_); rintro e w' ⟨rfl, rfl⟩)) | (go_at_call 22; first | ((with_reducible refine (hfj _).mono ?_); rintro e w' ⟨rfl, rfl⟩)))
  rw [rounds_succ]
  go_wp2_with (first | (go_at_call 24; refine (none_c _ _ _ _ _ a ha.acc _).mono ?_; rintro e w9 ⟨rfl, b5⟩; have e0 := (b5.block _ (Array.getElem?_eq_some_iff.1 E0.out).1).trans E0.out; have e1 := (b5.block _ (Array.getElem?_eq_some_iff.1 E1.out).1).trans E1.out; have e2 := (b5.block _ ltr).trans E2.out; replace B := Below.then B b5; clear E0 E1 E2 ltr x0 x1 xf y0 y1 y2 y3 y4 t0 t1 t2 t3 t4 tf b5; obtain ⟨x0, x1, xf⟩ := cells2 e0; obtain ⟨y0, y1, y2, y3, y4, _⟩ := cells5 e1; obtain ⟨t0, t1, t2, t3, t4, tf⟩ := cells5 e2; have ltr := (Array.getElem?_eq_some_iff.1 e2).1; have E0 := Lib.hid e0; have E1 := Lib.hid e1; have E2 := Lib.hid e2; clear e0 e1 e2) | (refine bodyPost_ret (retA rfl _ _ _ _ rfl (put5 E2.out _ _ _ _ _) rfl) rfl ⟨_, _, rfl, (hW.out.below B).put5 (w0 := w) (fun b off i e hi => hB _ _ _ e hi) (by omega) _ _ _ _ _, put5_below B (by omega) _ _ _ _ _⟩))
end Ref15
end Go.Proofs.Ytejgaldeamjplaa
