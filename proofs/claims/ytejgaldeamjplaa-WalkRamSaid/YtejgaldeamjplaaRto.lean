/- Contracts of the reference of package walk: To. -/
import Derived.Test.YtejgaldeamjplaaRleaf2
import Derived.Deep.RegionHeld3
import Derived.IntWalk
namespace Go.Proofs.Ytejgaldeamjplaa
open Go.RowKit
set_option linter.unusedVariables false
theorem Wd.put5x {w : World} {ad : Option Addr} {n cap : Nat} {zs : List Int} (h : Wd w ad n cap zs) {r : Nat} (hs : ∀ b off i, ad = some ⟨b, off, none⟩ → i < n → ¬ b = r) (x0 x1 x2 x3 x4 : Value) : Wd (((((w.setCell ⟨r, 0, none⟩ x0).setCell ⟨r, 1, none⟩ x1).setCell ⟨r, 2, none⟩ x2).setCell ⟨r, 3, none⟩ x3).setCell ⟨r, 4, none⟩ x4) ad n cap zs := by
  refine ⟨h.len, h.le, h.is.elim .inl fun ⟨a, e, hc⟩ => .inr ⟨a, e, fun i hi => ?_⟩, h.z0⟩
  obtain ⟨b, off, rfl, hv⟩ := hc i hi
  refine ⟨b, off, rfl, ?_⟩
  rw [World.cell?_of_block (a := ⟨b, off + i, none⟩) (put5_other (hs b off i e hi) x0 x1 x2 x3 x4)]
  exact hv
theorem Wd.put5 {w0 w : World} {ad : Option Addr} {n cap : Nat} {zs : List Int} (h : Wd w ad n cap zs) (hs : ∀ b off i, ad = some ⟨b, off, none⟩ → i < n → b < w0.heap.size) {r : Nat} (hr : w0.heap.size ≤ r) (x0 x1 x2 x3 x4 : Value) : Wd (((((w.setCell ⟨r, 0, none⟩ x0).setCell ⟨r, 1, none⟩ x1).setCell ⟨r, 2, none⟩ x2).setCell ⟨r, 3, none⟩ x3).setCell ⟨r, 4, none⟩ x4) ad n cap zs :=
  h.put5x (fun b off i e hi => by have := hs b off i e hi; omega) x0 x1 x2 x3 x4
namespace Ref15
theorem leaf_any {w : World} {base : Int} {ad : Option Addr} {n cap : Nat} {zs : List Int} (hW : Wd w ad n cap zs) (hn4 : n ≤ 4096) (a : Wk.Ask) (ha : a.Ok) {i : Nat} (hi : i < n) (b : Bool) {pa c : Int} {t : Bool} {zs' : List Int} (q : Hid (Wk.fin zs a i b = ⟨pa, c, t, zs'⟩)) :
    Calls Try.prog 25 #[ramv base ad n cap, .agg #[.int .u32 a.va, .int .u32 a.satp, .int .u32 a.status, .int .i64 a.access, .int .i64 a.priv], .int .i64 i, .bool b] w fun e w' => ∃ a' k', e = .returned (ansv pa c t base a' n k') ∧ Wd w' a' n k' zs' ∧ (a' = ad ∨ ∀ x, a' = some x → w.heap.size ≤ x.block) ∧ Below w.heap.size w w' := by
  have q := q.out
  unfold Wk.fin at q
  split at q
  · rename_i hn
    cases q
    exact (leaf_no hW hn4 a ha hi b hn).mono fun e w' ⟨he, hb⟩ => ⟨ad, cap, he, hW.below hb, .inl rfl, hb⟩
  · rename_i hn
    split at q
    · rename_i hf
      cases q
      exact (leaf_far hW hn4 a ha hi b (by simpa using hn) hf).mono fun e w' ⟨a', k', h1, h2, h3, h4⟩ => ⟨a', k', h1, h2, .inr h3, h4⟩
    · rename_i hf
      cases q
      exact (leaf_ok hW hn4 a ha hi b (by simpa using hn) (by omega)).mono fun e w' ⟨a', k', h1, h2, h3, h4⟩ => ⟨a', k', h1, h2, .inr h3, h4⟩
set_option maxHeartbeats 2000000 in
set_option maxRecDepth 100000 in
theorem to_plain {w : World} {base : Int} (hb0 : 0 ≤ base) (hb1 : base < 4294967296) {ad : Option Addr} {n cap : Nat} {zs : List Int} (hW0 : Wd w ad n cap zs) (hn4 : n ≤ 4096) (a : Wk.Ask) (ha : a.Ok) (h : (a.priv == 3) = true ∨ ((a.priv == 3) = false ∧ Wk.bit a.satp 31 = false)) :
    Calls Try.prog 13 #[ramv base ad n cap, .agg #[.int .u32 a.va, .int .u32 a.satp, .int .u32 a.status, .int .i64 a.access, .int .i64 a.priv]] w fun e w' => ∃ a' k', e = .returned (ansv a.va 0 true base a' n k') ∧ Wd w' a' n k' zs ∧ Below w.heap.size w w' := by
  have hW := Lib.hid hW0
  have hB : ∀ b off i, ad = some ⟨b, off, none⟩ → i < n → b < w.heap.size := fun b off i e hi => by
    obtain ⟨b', off', e', hc⟩ := hW0.at_ hi
    rw [e] at e'
    cases e'
    exact World.block_lt_of_cell? w _ (hc i hi)
  have hb31 := fun W => bit_c a.satp 31 W ha.satp0 ha.satp1 (by decide) (by decide)
  rcases h with h | ⟨h, hs⟩
  · go_enter Try.func13, Try.ntmps13
    go_wp2
    refine bodyPost_ret (v := ansv a.va 0 true base ad n cap) ?_ rfl ⟨ad, cap, rfl, hW.out.below (by repeat (first | exact Below.refl _ _ | apply Walk.below_al)), by repeat (first | exact Below.refl _ _ | apply Walk.below_al)⟩
    simp [results, Try.results13, go_sem]
  · rw [hs] at hb31
    go_enter Try.func13, Try.ntmps13
    go_wp2_with (go_at_call 21; first | ((with_reducible refine (hb31 _).mono ?_); rintro e w' ⟨rfl, rfl⟩))
    refine bodyPost_ret (v := ansv a.va 0 true base ad n cap) ?_ rfl ⟨ad, cap, rfl, hW.out.below (by repeat (first | exact Below.refl _ _ | apply Walk.below_al)), by repeat (first | exact Below.refl _ _ | apply Walk.below_al)⟩
    simp [results, Try.results13, go_sem]
set_option maxHeartbeats 2000000 in
set_option maxRecDepth 100000 in
theorem to_n1 {w : World} {base : Int} (hb0 : 0 ≤ base) (hb1 : base < 4294967296) {ad : Option Addr} {n cap : Nat} {zs : List Int} (hW0 : Wd w ad n cap zs) (hn4 : n ≤ 4096) (a : Wk.Ask) (ha : a.Ok) (hp3 : (a.priv == 3) = false) (hs31 : Wk.bit a.satp 31 = true) (hp : Wk.place base n (Wk.at_ (Bt.field a.satp 0 22) a.va 1) = none) :
    Calls Try.prog 13 #[ramv base ad n cap, .agg #[.int .u32 a.va, .int .u32 a.satp, .int .u32 a.status, .int .i64 a.access, .int .i64 a.priv]] w fun e w' => ∃ a' k', e = .returned (ansv 0 (Wk.cause a.access false) false base a' n k') ∧ Wd w' a' n k' zs ∧ Below w.heap.size w w' := by
  have hW := Lib.hid hW0
  have hB : ∀ b off i, ad = some ⟨b, off, none⟩ → i < n → b < w.heap.size := fun b off i e hi => by
    obtain ⟨b', off', e', hc⟩ := hW0.at_ hi
    rw [e] at e'
    cases e'
    exact World.block_lt_of_cell? w _ (hc i hi)
  have f0 := (Bt.field_rng a.satp 0 22).1
  have f1 : Bt.field a.satp 0 22 < 4194304 := (field_small a.satp 0 22 (by decide)).2
  have g0 := (Bt.field_rng a.va 22 10).1
  have g1 : Bt.field a.va 22 10 < 1024 := (field_small a.va 22 10 (by decide)).2
  have hb31 := fun W => bit_c a.satp 31 W ha.satp0 ha.satp1 (by decide) (by decide)
  rw [hs31] at hb31
  have hff := fun W => Ref1.field_c a.satp 0 22 W ha.satp0 ha.satp1 (hidA (by decide))
  have hf22 := fun W => Ref1.field_c a.va 22 10 W ha.va0 ha.va1 (hidA (by decide))
  have hP1 := fun W => place_c (w := W) (a := ad) (cap := cap) hn4 hb0 hb1 (x := Bt.field a.satp 0 22 * 4096 + 4 * Bt.field a.va 22 10) (by omega) (by omega) (v := -1) (by have hp' : Wk.place base n (Bt.field a.satp 0 22 * 4096 + 4 * Bt.field a.va 22 10) = none := hp; show _ = _; rw [hp'])
  generalize Bt.field a.satp 0 22 = f at *
  generalize Bt.field a.va 22 10 = fv at *
  clear hp hs31
  go_enter Try.func13, Try.ntmps13
  go_wp2_with (first | (go_at_call 21; first | ((with_reducible refine (hb31 _).mono ?_); rintro e w' ⟨rfl, rfl⟩)) | (go_at_call 22; first | ((with_reducible refine (hff _).mono ?_); rintro e w' ⟨rfl, rfl⟩)))
  refine wp_loop_rounds 3 ?_
  rw [rounds_succ]
  obtain ⟨e0, e1, e2, B⟩ := alloc3_then (Below.refl _ (((w.alloc (.cells #[.int .u32 base, .slice ad n cap] 25)).alloc (.cells #[.int .u32 a.va, .int .u32 a.satp, .int .u32 a.status, .int .i64 a.access, .int .i64 a.priv] 27)).alloc (.cells #[.int .u32 0, .int .u32 0, .bool false, .int .u32 0, .slice none 0 0] 36)))
  generalize (((w.alloc (.cells #[.int .u32 base, .slice ad n cap] 25)).alloc (.cells #[.int .u32 a.va, .int .u32 a.satp, .int .u32 a.status, .int .i64 a.access, .int .i64 a.priv] 27)).alloc (.cells #[.int .u32 0, .int .u32 0, .bool false, .int .u32 0, .slice none 0 0] 36)) = wA at *
  obtain ⟨x0, x1, xf⟩ := cells2 e0
  obtain ⟨y0, y1, y2, y3, y4, _⟩ := cells5 e1
  obtain ⟨t0, t1, t2, t3, t4, tf⟩ := cells5 e2
  have ltr := (Array.getElem?_eq_some_iff.1 e2).1
  have E0 := Lib.hid e0
  have E1 := Lib.hid e1
  have E2 := Lib.hid e2
  clear e0 e1 e2
  have t5 : IntKind.i64.wrap (10 * 0) = 0 := by decide
  have t6 : IntKind.i64.wrap (22 - 0) = 22 := by decide
  have t7 : IntKind.i64.wrap (22) = 22 := by decide
  have t8 : IntKind.i64.wrap (0) = 0 := by decide
  have s4 : IntKind.u64.wrap f = f := by rw [IntKind.wrap_u64]; omega
  have s5 : IntKind.u64.wrap fv = fv := by rw [IntKind.wrap_u64]; omega
  have s1 : IntKind.u64.wrap (f * 4096) = f * 4096 := by rw [IntKind.wrap_u64]; omega
  have s2 : IntKind.u64.wrap (4 * fv) = 4 * fv := by rw [IntKind.wrap_u64]; omega
  have s3 : IntKind.u64.wrap (f * 4096 + 4 * fv) = f * 4096 + 4 * fv := by rw [IntKind.wrap_u64]; omega
  go_wp2_with fail
  go_region_held3 (fun W => W.cell? ⟨w.heap.size, 0, none⟩ = some (.int .u32 base) ∧ W.cell? ⟨w.heap.size, 1, none⟩ = some (.slice ad n cap) ∧ W.cell? ⟨w.heap.size + 1, 0, none⟩ = some (.int .u32 a.va)) (exact ⟨x0, x1, y0⟩) (first | (go_at_call 22; first | ((with_reducible refine (hf22 _).mono ?_); rintro e w' ⟨rfl, rfl⟩)) | (go_at_call 23; (with_reducible refine (hP1 _).mono ?_); rintro e w1 ⟨rfl, b5⟩; clear hP1; (try replace b5 := undrew b5); have e0 := (b5.block _ (Array.getElem?_eq_some_iff.1 E0.out).1).trans E0.out; have e1 := (b5.block _ (Array.getElem?_eq_some_iff.1 E1.out).1).trans E1.out; have e2 := (b5.block _ ltr).trans E2.out; replace B := Below.then B b5; clear E0 E1 E2 ltr x0 x1 xf y0 y1 y2 y3 y4 t0 t1 t2 t3 t4 tf b5; obtain ⟨x0, x1, xf⟩ := cells2 e0; obtain ⟨y0, y1, y2, y3, y4, _⟩ := cells5 e1; obtain ⟨t0, t1, t2, t3, t4, tf⟩ := cells5 e2; have ltr := (Array.getElem?_eq_some_iff.1 e2).1; have E0 := Lib.hid e0; have E1 := Lib.hid e1; have E2 := Lib.hid e2; clear e0 e1 e2))
  clear s1 s2 s3 s4 s5 t5 t6 t7 t8
  go_wp2_with (first | (go_at_call 24; refine (none_c _ _ _ _ _ a ha.acc _).mono ?_; rintro e w9 ⟨rfl, b5⟩; have e0 := (b5.block _ (Array.getElem?_eq_some_iff.1 E0.out).1).trans E0.out; have e1 := (b5.block _ (Array.getElem?_eq_some_iff.1 E1.out).1).trans E1.out; have e2 := (b5.block _ ltr).trans E2.out; replace B := Below.then B b5; clear E0 E1 E2 ltr x0 x1 xf y0 y1 y2 y3 y4 t0 t1 t2 t3 t4 tf b5; obtain ⟨x0, x1, xf⟩ := cells2 e0; obtain ⟨y0, y1, y2, y3, y4, _⟩ := cells5 e1; obtain ⟨t0, t1, t2, t3, t4, tf⟩ := cells5 e2; have ltr := (Array.getElem?_eq_some_iff.1 e2).1; have E0 := Lib.hid e0; have E1 := Lib.hid e1; have E2 := Lib.hid e2; clear e0 e1 e2) | (refine bodyPost_ret (retA rfl _ _ _ _ rfl (put5 E2.out _ _ _ _ _) rfl) rfl ⟨_, _, rfl, (hW.out.below B).put5 (w0 := w) (fun b off i e hi => hB _ _ _ e hi) (by omega) _ _ _ _ _, put5_below B (by omega) _ _ _ _ _⟩))
set_option maxHeartbeats 2000000 in
set_option maxRecDepth 100000 in
theorem to_v1 {w : World} {base : Int} (hb0 : 0 ≤ base) (hb1 : base < 4294967296) {ad : Option Addr} {n cap : Nat} {zs : List Int} (hW0 : Wd w ad n cap zs) (hn4 : n ≤ 4096) (a : Wk.Ask) (ha : a.Ok) (hp3 : (a.priv == 3) = false) (hs31 : Wk.bit a.satp 31 = true) {i : Nat} (hp : Wk.place base n (Wk.at_ (Bt.field a.satp 0 22) a.va 1) = some i) (hv : Wk.bit (zs.getD i 0) 0 = false) :
    Calls Try.prog 13 #[ramv base ad n cap, .agg #[.int .u32 a.va, .int .u32 a.satp, .int .u32 a.status, .int .i64 a.access, .int .i64 a.priv]] w fun e w' => ∃ a' k', e = .returned (ansv 0 (Wk.cause a.access true) false base a' n k') ∧ Wd w' a' n k' zs ∧ Below w.heap.size w w' := by
  have hW := Lib.hid hW0
  have hB : ∀ b off i, ad = some ⟨b, off, none⟩ → i < n → b < w.heap.size := fun b off i e hi => by
    obtain ⟨b', off', e', hc⟩ := hW0.at_ hi
    rw [e] at e'
    cases e'
    exact World.block_lt_of_cell? w _ (hc i hi)
  have f0 := (Bt.field_rng a.satp 0 22).1
  have f1 : Bt.field a.satp 0 22 < 4194304 := (field_small a.satp 0 22 (by decide)).2
  have g0 := (Bt.field_rng a.va 22 10).1
  have g1 : Bt.field a.va 22 10 < 1024 := (field_small a.va 22 10 (by decide)).2
  have hb31 := fun W => bit_c a.satp 31 W ha.satp0 ha.satp1 (by decide) (by decide)
  rw [hs31] at hb31
  have hff := fun W => Ref1.field_c a.satp 0 22 W ha.satp0 ha.satp1 (hidA (by decide))
  have hf22 := fun W => Ref1.field_c a.va 22 10 W ha.va0 ha.va1 (hidA (by decide))
  have hi := (Wk.place_lt hp).1
  have hP1 := fun W => place_c (w := W) (a := ad) (cap := cap) hn4 hb0 hb1 (x := Bt.field a.satp 0 22 * 4096 + 4 * Bt.field a.va 22 10) (by omega) (by omega) (v := (i : Int)) (by have hp' : Wk.place base n (Bt.field a.satp 0 22 * 4096 + 4 * Bt.field a.va 22 10) = some i := hp; show _ = _; rw [hp'])
  obtain ⟨bb, off, rfl, hcell⟩ := hW0.at_ hi
  have hx := Lib.hid (hcell i hi)
  obtain ⟨z0, z1⟩ := hW0.z0 i
  have hi2 : (i : Int) < (n : Int) := by omega
  have hi3 : ¬ (i : Int) < 0 := by omega
  have i0 := fun W => bit_c (zs.getD i 0) 0 W z0 z1 (by decide) (by decide)
  have i1 := fun W => bit_c (zs.getD i 0) 1 W z0 z1 (by decide) (by decide)
  have i2 := fun W => bit_c (zs.getD i 0) 2 W z0 z1 (by decide) (by decide)
  have i3 := fun W => bit_c (zs.getD i 0) 3 W z0 z1 (by decide) (by decide)
  rw [hv] at i0
  generalize Bt.field a.satp 0 22 = f at *
  generalize Bt.field a.va 22 10 = fv at *
  obtain ⟨x, HX⟩ : ∃ x, Hid (zs.getD i 0 = x) := ⟨_, rfl⟩
  rw [HX.out] at hx i0 i1 i2 i3
  clear hp hs31 hv hcell z0 z1 hW0
  go_enter Try.func13, Try.ntmps13
  go_wp2_with (first | (go_at_call 21; first | ((with_reducible refine (hb31 _).mono ?_); rintro e w' ⟨rfl, rfl⟩)) | (go_at_call 22; first | ((with_reducible refine (hff _).mono ?_); rintro e w' ⟨rfl, rfl⟩)))
  refine wp_loop_rounds 3 ?_
  rw [rounds_succ]
  obtain ⟨e0, e1, e2, B⟩ := alloc3_then (Below.refl _ (((w.alloc (.cells #[.int .u32 base, .slice (some ⟨bb, off, none⟩) n cap] 25)).alloc (.cells #[.int .u32 a.va, .int .u32 a.satp, .int .u32 a.status, .int .i64 a.access, .int .i64 a.priv] 27)).alloc (.cells #[.int .u32 0, .int .u32 0, .bool false, .int .u32 0, .slice none 0 0] 36)))
  generalize (((w.alloc (.cells #[.int .u32 base, .slice (some ⟨bb, off, none⟩) n cap] 25)).alloc (.cells #[.int .u32 a.va, .int .u32 a.satp, .int .u32 a.status, .int .i64 a.access, .int .i64 a.priv] 27)).alloc (.cells #[.int .u32 0, .int .u32 0, .bool false, .int .u32 0, .slice none 0 0] 36)) = wA at *
  obtain ⟨x0, x1, xf⟩ := cells2 e0
  obtain ⟨y0, y1, y2, y3, y4, _⟩ := cells5 e1
  obtain ⟨t0, t1, t2, t3, t4, tf⟩ := cells5 e2
  have ltr := (Array.getElem?_eq_some_iff.1 e2).1
  have E0 := Lib.hid e0
  have E1 := Lib.hid e1
  have E2 := Lib.hid e2
  clear e0 e1 e2
  have t5 : IntKind.i64.wrap (10 * 0) = 0 := by decide
  have t6 : IntKind.i64.wrap (22 - 0) = 22 := by decide
  have t7 : IntKind.i64.wrap (22) = 22 := by decide
  have t8 : IntKind.i64.wrap (0) = 0 := by decide
  have s4 : IntKind.u64.wrap f = f := by rw [IntKind.wrap_u64]; omega
  have s5 : IntKind.u64.wrap fv = fv := by rw [IntKind.wrap_u64]; omega
  have s1 : IntKind.u64.wrap (f * 4096) = f * 4096 := by rw [IntKind.wrap_u64]; omega
  have s2 : IntKind.u64.wrap (4 * fv) = 4 * fv := by rw [IntKind.wrap_u64]; omega
  have s3 : IntKind.u64.wrap (f * 4096 + 4 * fv) = f * 4096 + 4 * fv := by rw [IntKind.wrap_u64]; omega
  go_wp2_with fail
  go_region_held3 (fun W => W.cell? ⟨w.heap.size, 0, none⟩ = some (.int .u32 base) ∧ W.cell? ⟨w.heap.size, 1, none⟩ = some (.slice (some ⟨bb, off, none⟩) n cap) ∧ W.cell? ⟨w.heap.size + 1, 0, none⟩ = some (.int .u32 a.va)) (exact ⟨x0, x1, y0⟩) (first | (go_at_call 22; first | ((with_reducible refine (hf22 _).mono ?_); rintro e w' ⟨rfl, rfl⟩)) | (go_at_call 23; (with_reducible refine (hP1 _).mono ?_); rintro e w1 ⟨rfl, b5⟩; clear hP1; (try replace b5 := undrew b5); have e0 := (b5.block _ (Array.getElem?_eq_some_iff.1 E0.out).1).trans E0.out; have e1 := (b5.block _ (Array.getElem?_eq_some_iff.1 E1.out).1).trans E1.out; have e2 := (b5.block _ ltr).trans E2.out; replace B := Below.then B b5; clear E0 E1 E2 ltr x0 x1 xf y0 y1 y2 y3 y4 t0 t1 t2 t3 t4 tf b5; obtain ⟨x0, x1, xf⟩ := cells2 e0; obtain ⟨y0, y1, y2, y3, y4, _⟩ := cells5 e1; obtain ⟨t0, t1, t2, t3, t4, tf⟩ := cells5 e2; have ltr := (Array.getElem?_eq_some_iff.1 e2).1; have E0 := Lib.hid e0; have E1 := Lib.hid e1; have E2 := Lib.hid e2; clear e0 e1 e2))
  clear s1 s2 s3 s4 s5 t5 t6 t7 t8
  have c1 := (B.cell (World.block_lt_of_cell? w _ hx.out)).trans hx.out
  go_wp2_with (first | (go_at_call 21; first | ((with_reducible refine (i0 _).mono ?_); rintro e w' ⟨rfl, rfl⟩)) | (go_at_call 24; refine (none_c _ _ _ _ _ a ha.acc _).mono ?_; rintro e w9 ⟨rfl, b5⟩; have e0 := (b5.block _ (Array.getElem?_eq_some_iff.1 E0.out).1).trans E0.out; have e1 := (b5.block _ (Array.getElem?_eq_some_iff.1 E1.out).1).trans E1.out; have e2 := (b5.block _ ltr).trans E2.out; replace B := Below.then B b5; clear E0 E1 E2 ltr x0 x1 xf y0 y1 y2 y3 y4 t0 t1 t2 t3 t4 tf b5; obtain ⟨x0, x1, xf⟩ := cells2 e0; obtain ⟨y0, y1, y2, y3, y4, _⟩ := cells5 e1; obtain ⟨t0, t1, t2, t3, t4, tf⟩ := cells5 e2; have ltr := (Array.getElem?_eq_some_iff.1 e2).1; have E0 := Lib.hid e0; have E1 := Lib.hid e1; have E2 := Lib.hid e2; clear e0 e1 e2) | (refine bodyPost_ret (retA rfl _ _ _ _ rfl (put5 E2.out _ _ _ _ _) rfl) rfl ⟨_, _, rfl, (hW.out.below B).put5 (w0 := w) (fun b off i e hi => hB _ _ _ e hi) (by omega) _ _ _ _ _, put5_below B (by omega) _ _ _ _ _⟩))
set_option maxHeartbeats 2000000 in
set_option maxRecDepth 100000 in
theorem to_w1 {w : World} {base : Int} (hb0 : 0 ≤ base) (hb1 : base < 4294967296) {ad : Option Addr} {n cap : Nat} {zs : List Int} (hW0 : Wd w ad n cap zs) (hn4 : n ≤ 4096) (a : Wk.Ask) (ha : a.Ok) (hp3 : (a.priv == 3) = false) (hs31 : Wk.bit a.satp 31 = true) {i : Nat} (hp : Wk.place base n (Wk.at_ (Bt.field a.satp 0 22) a.va 1) = some i) (hv : Wk.bit (zs.getD i 0) 0 = true) (h2 : Wk.bit (zs.getD i 0) 2 = true) (h1 : Wk.bit (zs.getD i 0) 1 = false) :
    Calls Try.prog 13 #[ramv base ad n cap, .agg #[.int .u32 a.va, .int .u32 a.satp, .int .u32 a.status, .int .i64 a.access, .int .i64 a.priv]] w fun e w' => ∃ a' k', e = .returned (ansv 0 (Wk.cause a.access true) false base a' n k') ∧ Wd w' a' n k' zs ∧ Below w.heap.size w w' := by
  have hW := Lib.hid hW0
  have hB : ∀ b off i, ad = some ⟨b, off, none⟩ → i < n → b < w.heap.size := fun b off i e hi => by
    obtain ⟨b', off', e', hc⟩ := hW0.at_ hi
    rw [e] at e'
    cases e'
    exact World.block_lt_of_cell? w _ (hc i hi)
  have f0 := (Bt.field_rng a.satp 0 22).1
  have f1 : Bt.field a.satp 0 22 < 4194304 := (field_small a.satp 0 22 (by decide)).2
  have g0 := (Bt.field_rng a.va 22 10).1
  have g1 : Bt.field a.va 22 10 < 1024 := (field_small a.va 22 10 (by decide)).2
  have hb31 := fun W => bit_c a.satp 31 W ha.satp0 ha.satp1 (by decide) (by decide)
  rw [hs31] at hb31
  have hff := fun W => Ref1.field_c a.satp 0 22 W ha.satp0 ha.satp1 (hidA (by decide))
  have hf22 := fun W => Ref1.field_c a.va 22 10 W ha.va0 ha.va1 (hidA (by decide))
  have hi := (Wk.place_lt hp).1
  have hP1 := fun W => place_c (w := W) (a := ad) (cap := cap) hn4 hb0 hb1 (x := Bt.field a.satp 0 22 * 4096 + 4 * Bt.field a.va 22 10) (by omega) (by omega) (v := (i : Int)) (by have hp' : Wk.place base n (Bt.field a.satp 0 22 * 4096 + 4 * Bt.field a.va 22 10) = some i := hp; show _ = _; rw [hp'])
  obtain ⟨bb, off, rfl, hcell⟩ := hW0.at_ hi
  have hx := Lib.hid (hcell i hi)
  obtain ⟨z0, z1⟩ := hW0.z0 i
  have hi2 : (i : Int) < (n : Int) := by omega
  have hi3 : ¬ (i : Int) < 0 := by omega
  have i0 := fun W => bit_c (zs.getD i 0) 0 W z0 z1 (by decide) (by decide)
  have i1 := fun W => bit_c (zs.getD i 0) 1 W z0 z1 (by decide) (by decide)
  have i2 := fun W => bit_c (zs.getD i 0) 2 W z0 z1 (by decide) (by decide)
  have i3 := fun W => bit_c (zs.getD i 0) 3 W z0 z1 (by decide) (by decide)
  rw [hv] at i0
  rw [h2] at i2
  rw [h1] at i1
  generalize Bt.field a.satp 0 22 = f at *
  generalize Bt.field a.va 22 10 = fv at *
  obtain ⟨x, HX⟩ : ∃ x, Hid (zs.getD i 0 = x) := ⟨_, rfl⟩
  rw [HX.out] at hx i0 i1 i2 i3
  clear hp hs31 hv h1 h2 hcell z0 z1 hW0
  go_enter Try.func13, Try.ntmps13
  go_wp2_with (first | (go_at_call 21; first | ((with_reducible refine (hb31 _).mono ?_); rintro e w' ⟨rfl, rfl⟩)) | (go_at_call 22; first | ((with_reducible refine (hff _).mono ?_); rintro e w' ⟨rfl, rfl⟩)))
  refine wp_loop_rounds 3 ?_
  rw [rounds_succ]
  obtain ⟨e0, e1, e2, B⟩ := alloc3_then (Below.refl _ (((w.alloc (.cells #[.int .u32 base, .slice (some ⟨bb, off, none⟩) n cap] 25)).alloc (.cells #[.int .u32 a.va, .int .u32 a.satp, .int .u32 a.status, .int .i64 a.access, .int .i64 a.priv] 27)).alloc (.cells #[.int .u32 0, .int .u32 0, .bool false, .int .u32 0, .slice none 0 0] 36)))
  generalize (((w.alloc (.cells #[.int .u32 base, .slice (some ⟨bb, off, none⟩) n cap] 25)).alloc (.cells #[.int .u32 a.va, .int .u32 a.satp, .int .u32 a.status, .int .i64 a.access, .int .i64 a.priv] 27)).alloc (.cells #[.int .u32 0, .int .u32 0, .bool false, .int .u32 0, .slice none 0 0] 36)) = wA at *
  obtain ⟨x0, x1, xf⟩ := cells2 e0
  obtain ⟨y0, y1, y2, y3, y4, _⟩ := cells5 e1
  obtain ⟨t0, t1, t2, t3, t4, tf⟩ := cells5 e2
  have ltr := (Array.getElem?_eq_some_iff.1 e2).1
  have E0 := Lib.hid e0
  have E1 := Lib.hid e1
  have E2 := Lib.hid e2
  clear e0 e1 e2
  have t5 : IntKind.i64.wrap (10 * 0) = 0 := by decide
  have t6 : IntKind.i64.wrap (22 - 0) = 22 := by decide
  have t7 : IntKind.i64.wrap (22) = 22 := by decide
  have t8 : IntKind.i64.wrap (0) = 0 := by decide
  have s4 : IntKind.u64.wrap f = f := by rw [IntKind.wrap_u64]; omega
  have s5 : IntKind.u64.wrap fv = fv := by rw [IntKind.wrap_u64]; omega
  have s1 : IntKind.u64.wrap (f * 4096) = f * 4096 := by rw [IntKind.wrap_u64]; omega
  have s2 : IntKind.u64.wrap (4 * fv) = 4 * fv := by rw [IntKind.wrap_u64]; omega
  have s3 : IntKind.u64.wrap (f * 4096 + 4 * fv) = f * 4096 + 4 * fv := by rw [IntKind.wrap_u64]; omega
  go_wp2_with fail
  go_region_held3 (fun W => W.cell? ⟨w.heap.size, 0, none⟩ = some (.int .u32 base) ∧ W.cell? ⟨w.heap.size, 1, none⟩ = some (.slice (some ⟨bb, off, none⟩) n cap) ∧ W.cell? ⟨w.heap.size + 1, 0, none⟩ = some (.int .u32 a.va)) (exact ⟨x0, x1, y0⟩) (first | (go_at_call 22; first | ((with_reducible refine (hf22 _).mono ?_); rintro e w' ⟨rfl, rfl⟩)) | (go_at_call 23; (with_reducible refine (hP1 _).mono ?_); rintro e w1 ⟨rfl, b5⟩; clear hP1; (try replace b5 := undrew b5); have e0 := (b5.block _ (Array.getElem?_eq_some_iff.1 E0.out).1).trans E0.out; have e1 := (b5.block _ (Array.getElem?_eq_some_iff.1 E1.out).1).trans E1.out; have e2 := (b5.block _ ltr).trans E2.out; replace B := Below.then B b5; clear E0 E1 E2 ltr x0 x1 xf y0 y1 y2 y3 y4 t0 t1 t2 t3 t4 tf b5; obtain ⟨x0, x1, xf⟩ := cells2 e0; obtain ⟨y0, y1, y2, y3, y4, _⟩ := cells5 e1; obtain ⟨t0, t1, t2, t3, t4, tf⟩ := cells5 e2; have ltr := (Array.getElem?_eq_some_iff.1 e2).1; have E0 := Lib.hid e0; have E1 := Lib.hid e1; have E2 := Lib.hid e2; clear e0 e1 e2))
  clear s1 s2 s3 s4 s5 t5 t6 t7 t8
  have c1 := (B.cell (World.block_lt_of_cell? w _ hx.out)).trans hx.out
  go_wp2_with (first | (go_at_call 21; first | ((with_reducible refine (i0 _).mono ?_); rintro e w' ⟨rfl, rfl⟩) | ((with_reducible refine (i1 _).mono ?_); rintro e w' ⟨rfl, rfl⟩) | ((with_reducible refine (i2 _).mono ?_); rintro e w' ⟨rfl, rfl⟩)) | (go_at_call 24; refine (none_c _ _ _ _ _ a ha.acc _).mono ?_; rintro e w9 ⟨rfl, b5⟩; have e0 := (b5.block _ (Array.getElem?_eq_some_iff.1 E0.out).1).trans E0.out; have e1 := (b5.block _ (Array.getElem?_eq_some_iff.1 E1.out).1).trans E1.out; have e2 := (b5.block _ ltr).trans E2.out; replace B := Below.then B b5; clear E0 E1 E2 ltr x0 x1 xf y0 y1 y2 y3 y4 t0 t1 t2 t3 t4 tf b5; obtain ⟨x0, x1, xf⟩ := cells2 e0; obtain ⟨y0, y1, y2, y3, y4, _⟩ := cells5 e1; obtain ⟨t0, t1, t2, t3, t4, tf⟩ := cells5 e2; have ltr := (Array.getElem?_eq_some_iff.1 e2).1; have E0 := Lib.hid e0; have E1 := Lib.hid e1; have E2 := Lib.hid e2; clear e0 e1 e2) | (refine bodyPost_ret (retA rfl _ _ _ _ rfl (put5 E2.out _ _ _ _ _) rfl) rfl ⟨_, _, rfl, (hW.out.below B).put5 (w0 := w) (fun b off i e hi => hB _ _ _ e hi) (by omega) _ _ _ _ _, put5_below B (by omega) _ _ _ _ _⟩))
set_option maxHeartbeats 2000000 in
set_option maxRecDepth 100000 in
theorem to_l1 {w : World} {base : Int} (hb0 : 0 ≤ base) (hb1 : base < 4294967296) {ad : Option Addr} {n cap : Nat} {zs : List Int} (hW0 : Wd w ad n cap zs) (hn4 : n ≤ 4096) (a : Wk.Ask) (ha : a.Ok) (hp3 : (a.priv == 3) = false) (hs31 : Wk.bit a.satp 31 = true) {i : Nat} (hp : Wk.place base n (Wk.at_ (Bt.field a.satp 0 22) a.va 1) = some i) (hv : Wk.bit (zs.getD i 0) 0 = true) (h21 : Wk.bit (zs.getD i 0) 2 = true → Wk.bit (zs.getD i 0) 1 = true) (hl : Wk.isLeaf (zs.getD i 0) = true) {pa c : Int} {t : Bool} {zs' : List Int} (q : Hid (Wk.fin zs a i true = ⟨pa, c, t, zs'⟩)) :
    Calls Try.prog 13 #[ramv base ad n cap, .agg #[.int .u32 a.va, .int .u32 a.satp, .int .u32 a.status, .int .i64 a.access, .int .i64 a.priv]] w fun e w' => ∃ a' k', e = .returned (ansv pa c t base a' n k') ∧ Wd w' a' n k' zs' ∧ Below w.heap.size w w' := by
  have hW := Lib.hid hW0
  have hB : ∀ b off i, ad = some ⟨b, off, none⟩ → i < n → b < w.heap.size := fun b off i e hi => by
    obtain ⟨b', off', e', hc⟩ := hW0.at_ hi
    rw [e] at e'
    cases e'
    exact World.block_lt_of_cell? w _ (hc i hi)
  have f0 := (Bt.field_rng a.satp 0 22).1
  have f1 : Bt.field a.satp 0 22 < 4194304 := (field_small a.satp 0 22 (by decide)).2
  have g0 := (Bt.field_rng a.va 22 10).1
  have g1 : Bt.field a.va 22 10 < 1024 := (field_small a.va 22 10 (by decide)).2
  have hb31 := fun W => bit_c a.satp 31 W ha.satp0 ha.satp1 (by decide) (by decide)
  rw [hs31] at hb31
  have hff := fun W => Ref1.field_c a.satp 0 22 W ha.satp0 ha.satp1 (hidA (by decide))
  have hf22 := fun W => Ref1.field_c a.va 22 10 W ha.va0 ha.va1 (hidA (by decide))
  have hi := (Wk.place_lt hp).1
  have hP1 := fun W => place_c (w := W) (a := ad) (cap := cap) hn4 hb0 hb1 (x := Bt.field a.satp 0 22 * 4096 + 4 * Bt.field a.va 22 10) (by omega) (by omega) (v := (i : Int)) (by have hp' : Wk.place base n (Bt.field a.satp 0 22 * 4096 + 4 * Bt.field a.va 22 10) = some i := hp; show _ = _; rw [hp'])
  obtain ⟨bb, off, rfl, hcell⟩ := hW0.at_ hi
  have hx := Lib.hid (hcell i hi)
  obtain ⟨z0, z1⟩ := hW0.z0 i
  have hi2 : (i : Int) < (n : Int) := by omega
  have hi3 : ¬ (i : Int) < 0 := by omega
  have i0 := fun W => bit_c (zs.getD i 0) 0 W z0 z1 (by decide) (by decide)
  have i1 := fun W => bit_c (zs.getD i 0) 1 W z0 z1 (by decide) (by decide)
  have i2 := fun W => bit_c (zs.getD i 0) 2 W z0 z1 (by decide) (by decide)
  have i3 := fun W => bit_c (zs.getD i 0) 3 W z0 z1 (by decide) (by decide)
  have hL := fun W (p : Wd W (some ⟨bb, off, none⟩) n cap zs) => leaf_any (base := base) p hn4 a ha hi true q
  rw [hv] at i0
  have key : (Wk.bit (zs.getD i 0) 2 = false ∧ Wk.bit (zs.getD i 0) 1 = true) ∨ (Wk.bit (zs.getD i 0) 2 = true ∧ Wk.bit (zs.getD i 0) 1 = true) ∨ (Wk.bit (zs.getD i 0) 2 = false ∧ Wk.bit (zs.getD i 0) 1 = false ∧ Wk.bit (zs.getD i 0) 3 = true) := by
    unfold Wk.isLeaf at hl
    cases e2 : Wk.bit (zs.getD i 0) 2 <;> cases e1 : Wk.bit (zs.getD i 0) 1 <;> cases e3 : Wk.bit (zs.getD i 0) 3 <;> simp_all
  generalize Bt.field a.satp 0 22 = f at *
  generalize Bt.field a.va 22 10 = fv at *
  obtain ⟨x, HX⟩ : ∃ x, Hid (zs.getD i 0 = x) := ⟨_, rfl⟩
  rw [HX.out] at hx i0 i1 i2 i3 key
  generalize Wk.bit x 1 = b1 at *
  generalize Wk.bit x 2 = b2 at *
  generalize Wk.bit x 3 = b3 at *
  clear hp hs31 hv h21 hl hcell z0 z1 q hW0
  rcases key with ⟨rfl, rfl⟩ | ⟨rfl, rfl⟩ | ⟨rfl, rfl, rfl⟩
  all_goals
    go_enter Try.func13, Try.ntmps13
    go_wp2_with (first | (go_at_call 21; first | ((with_reducible refine (hb31 _).mono ?_); rintro e w' ⟨rfl, rfl⟩)) | (go_at_call 22; first | ((with_reducible refine (hff _).mono ?_); rintro e w' ⟨rfl, rfl⟩)))
    refine wp_loop_rounds 3 ?_
    rw [rounds_succ]
    obtain ⟨e0, e1, e2, B⟩ := alloc3_then (Below.refl _ (((w.alloc (.cells #[.int .u32 base, .slice (some ⟨bb, off, none⟩) n cap] 25)).alloc (.cells #[.int .u32 a.va, .int .u32 a.satp, .int .u32 a.status, .int .i64 a.access, .int .i64 a.priv] 27)).alloc (.cells #[.int .u32 0, .int .u32 0, .bool false, .int .u32 0, .slice none 0 0] 36)))
    generalize (((w.alloc (.cells #[.int .u32 base, .slice (some ⟨bb, off, none⟩) n cap] 25)).alloc (.cells #[.int .u32 a.va, .int .u32 a.satp, .int .u32 a.status, .int .i64 a.access, .int .i64 a.priv] 27)).alloc (.cells #[.int .u32 0, .int .u32 0, .bool false, .int .u32 0, .slice none 0 0] 36)) = wA at *
    obtain ⟨x0, x1, xf⟩ := cells2 e0
    obtain ⟨y0, y1, y2, y3, y4, _⟩ := cells5 e1
    obtain ⟨t0, t1, t2, t3, t4, tf⟩ := cells5 e2
    have ltr := (Array.getElem?_eq_some_iff.1 e2).1
    have E0 := Lib.hid e0
    have E1 := Lib.hid e1
    have E2 := Lib.hid e2
    clear e0 e1 e2
    have t5 : IntKind.i64.wrap (10 * 0) = 0 := by decide
    have t6 : IntKind.i64.wrap (22 - 0) = 22 := by decide
    have t7 : IntKind.i64.wrap (22) = 22 := by decide
    have t8 : IntKind.i64.wrap (0) = 0 := by decide
    have s4 : IntKind.u64.wrap f = f := by rw [IntKind.wrap_u64]; omega
    have s5 : IntKind.u64.wrap fv = fv := by rw [IntKind.wrap_u64]; omega
    have s1 : IntKind.u64.wrap (f * 4096) = f * 4096 := by rw [IntKind.wrap_u64]; omega
    have s2 : IntKind.u64.wrap (4 * fv) = 4 * fv := by rw [IntKind.wrap_u64]; omega
    have s3 : IntKind.u64.wrap (f * 4096 + 4 * fv) = f * 4096 + 4 * fv := by rw [IntKind.wrap_u64]; omega
    go_wp2_with fail
    go_region_held3 (fun W => W.cell? ⟨w.heap.size, 0, none⟩ = some (.int .u32 base) ∧ W.cell? ⟨w.heap.size, 1, none⟩ = some (.slice (some ⟨bb, off, none⟩) n cap) ∧ W.cell? ⟨w.heap.size + 1, 0, none⟩ = some (.int .u32 a.va)) (exact ⟨x0, x1, y0⟩) (first | (go_at_call 22; first | ((with_reducible refine (hf22 _).mono ?_); rintro e w' ⟨rfl, rfl⟩)) | (go_at_call 23; (with_reducible refine (hP1 _).mono ?_); rintro e w1 ⟨rfl, b5⟩; clear hP1; (try replace b5 := undrew b5); have e0 := (b5.block _ (Array.getElem?_eq_some_iff.1 E0.out).1).trans E0.out; have e1 := (b5.block _ (Array.getElem?_eq_some_iff.1 E1.out).1).trans E1.out; have e2 := (b5.block _ ltr).trans E2.out; replace B := Below.then B b5; clear E0 E1 E2 ltr x0 x1 xf y0 y1 y2 y3 y4 t0 t1 t2 t3 t4 tf b5; obtain ⟨x0, x1, xf⟩ := cells2 e0; obtain ⟨y0, y1, y2, y3, y4, _⟩ := cells5 e1; obtain ⟨t0, t1, t2, t3, t4, tf⟩ := cells5 e2; have ltr := (Array.getElem?_eq_some_iff.1 e2).1; have E0 := Lib.hid e0; have E1 := Lib.hid e1; have E2 := Lib.hid e2; clear e0 e1 e2))
    clear s1 s2 s3 s4 s5 t5 t6 t7 t8
    have c1 := (B.cell (World.block_lt_of_cell? w _ hx.out)).trans hx.out
    go_wp2_with (first | (go_at_call 21; first | ((with_reducible refine (i0 _).mono ?_); rintro e w' ⟨rfl, rfl⟩) | ((with_reducible refine (i1 _).mono ?_); rintro e w' ⟨rfl, rfl⟩) | ((with_reducible refine (i2 _).mono ?_); rintro e w' ⟨rfl, rfl⟩) | ((with_reducible refine (i3 _).mono ?_); rintro e w' ⟨rfl, rfl⟩)) | (go_at_call 25; refine (hL _ (hW.out.below B)).mono ?_; rintro e w9 ⟨a', k', rfl, WF, WA, b5⟩; have hbs := b5.size; have ltq := ltr; have e0 := (b5.block _ (Array.getElem?_eq_some_iff.1 E0.out).1).trans E0.out; have e1 := (b5.block _ (Array.getElem?_eq_some_iff.1 E1.out).1).trans E1.out; have e2 := (b5.block _ ltr).trans E2.out; replace B := Below.then B b5; clear E0 E1 E2 ltr x0 x1 xf y0 y1 y2 y3 y4 t0 t1 t2 t3 t4 tf b5; obtain ⟨x0, x1, xf⟩ := cells2 e0; obtain ⟨y0, y1, y2, y3, y4, _⟩ := cells5 e1; obtain ⟨t0, t1, t2, t3, t4, tf⟩ := cells5 e2; have ltr := (Array.getElem?_eq_some_iff.1 e2).1; have E0 := Lib.hid e0; have E1 := Lib.hid e1; have E2 := Lib.hid e2; clear e0 e1 e2) | (refine bodyPost_ret (retA rfl _ _ _ _ rfl (put5 E2.out _ _ _ _ _) rfl) rfl ⟨_, _, rfl, WF.put5x (fun b off i e hi => by rcases WA with h | h; exact Nat.ne_of_lt (Nat.lt_of_lt_of_le (hB b off i (h ▸ e) hi) (by omega)); (have := h _ e; show ¬ b = _; simp only at this; omega)) _ _ _ _ _, put5_below B (by omega) _ _ _ _ _⟩))
end Ref15
end Go.Proofs.Ytejgaldeamjplaa
