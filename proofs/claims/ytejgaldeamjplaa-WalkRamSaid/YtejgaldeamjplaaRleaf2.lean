/- Contracts of the reference of package walk: leaf. -/
import Derived.Test.YtejgaldeamjplaaRleaf
import Derived.Test.YtejgaldeamjplaaRefus
namespace Go.Proofs.Ytejgaldeamjplaa
open Go.RowKit
set_option linter.unusedVariables false
theorem field_mod {x : Int} (hx : 0 ≤ x) (hx' : x < 4294967296) : Bt.field x 0 12 = x % 4096 := by
  refine Bt.ext (Bt.field_rng _ _ _).1 (Bt.field_rng _ _ _).2 (by omega) (by omega) fun i hi hi' => ?_
  rw [Bt.tb_field hi hi', show (0 : Int) + i = i by omega]
  have e : (x % 4096).toNat = x.toNat % 2 ^ 12 := by omega
  simp only [Bt.tb, e, Nat.testBit_mod_two_pow, decide_eq_true hi, Bool.true_and]
  congr 1
  rw [Bool.eq_iff_iff, decide_eq_true_eq, decide_eq_true_eq]; omega
theorem hidA {k : Int} (h : 0 ≤ k) : Hid (-9223372036854775808 ≤ k) := by show _ ≤ _; omega
namespace Ref15
set_option maxHeartbeats 2000000 in
set_option maxRecDepth 100000 in
theorem leaf_no {w : World} {base : Int} {ad : Option Addr} {n cap : Nat} {zs : List Int} (hW : Wd w ad n cap zs) (hn4 : n ≤ 4096) (a : Wk.Ask) (ha : a.Ok) {i : Nat} (hi : i < n) (b : Bool) (hl : Wk.lets (zs.getD i 0) b a = false) :
    Calls Try.prog 25 #[ramv base ad n cap, .agg #[.int .u32 a.va, .int .u32 a.satp, .int .u32 a.status, .int .i64 a.access, .int .i64 a.priv], .int .i64 i, .bool b] w fun e w' => e = .returned (ansv 0 (Wk.cause a.access true) false base ad n cap) ∧ Below w.heap.size w w' := by
  obtain ⟨bb, off, rfl, hcell⟩ := hW.at_ hi
  have hx := hcell i hi
  obtain ⟨z0, z1⟩ := hW.z0 i
  have hi2 : (i : Int) < (n : Int) := by omega
  have hn5 : (n : Int) ≤ 4096 := by omega
  have hR := fun W => refused_c z0 z1 b a ha W
  rw [hl, Bool.not_false] at hR
  obtain ⟨x, HX⟩ : ∃ x, Hid (zs.getD i 0 = x) := ⟨_, rfl⟩
  rw [HX.out] at hx hR
  have HX3 := fun o1 o2 o3 => Lib.cell?_alloc_some o3 (Lib.cell?_alloc_some o2 (Lib.cell?_alloc_some o1 hx))
  clear hl z0 z1 hcell
  go_enter Try.func25, Try.ntmps25
  go_wp2_with (first | (go_at_call 37; refine (hR _).mono ?_; rintro e w1 ⟨rfl, b1⟩; clear hR HX3; obtain ⟨e0, e1, e2, B⟩ := alloc3_then b1; clear b1; obtain ⟨x0, x1, xf⟩ := cells2 e0; obtain ⟨y0, y1, y2, y3, y4, _⟩ := cells5 e1; have ltr := (Array.getElem?_eq_some_iff.1 e2).1; have E0 := Lib.hid e0; have E1 := Lib.hid e1; have E2 := Lib.hid e2; have X1 := (fun o => Lib.cell?_alloc_some o x1); clear e0 e1 e2) | (go_at_call 24; refine (none_c _ _ _ _ _ a ha.acc _).mono ?_; rintro e w9 ⟨rfl, b9⟩; have e2 := (b9.block _ ltr).trans E2.out; replace B := Below.then B b9; obtain ⟨u0, u1, u2, u3, u4, uf⟩ := cells5 e2; have E9 := Lib.hid e2; clear e2 b9) | (refine bodyPost_ret (retA rfl _ _ _ _ rfl (put5 E9.out _ _ _ _ _) rfl) rfl ⟨rfl, put5_below B (by omega) _ _ _ _ _⟩))
set_option maxHeartbeats 2000000 in
set_option maxRecDepth 100000 in
theorem leaf_far {w : World} {base : Int} {ad : Option Addr} {n cap : Nat} {zs : List Int} (hW : Wd w ad n cap zs) (hn4 : n ≤ 4096) (a : Wk.Ask) (ha : a.Ok) {i : Nat} (hi : i < n) (b : Bool) (hl : Wk.lets (zs.getD i 0) b a = true) (hfar : 1048576 ≤ Wk.frameOf (zs.getD i 0) b a.va) :
    Calls Try.prog 25 #[ramv base ad n cap, .agg #[.int .u32 a.va, .int .u32 a.satp, .int .u32 a.status, .int .i64 a.access, .int .i64 a.priv], .int .i64 i, .bool b] w fun e w' => ∃ a' k', e = .returned (ansv 0 (Wk.cause a.access false) false base a' n k') ∧ Wd w' a' n k' (zs.set i (Wk.marked (zs.getD i 0) a.access)) ∧ (∀ x, a' = some x → w.heap.size ≤ x.block) ∧ Below w.heap.size w w' := by
  obtain ⟨bb, off, rfl, hcell⟩ := hW.at_ hi
  have hx := hcell i hi
  obtain ⟨z0, z1⟩ := hW.z0 i
  have hi2 : (i : Int) < (n : Int) := by omega
  have hn5 : (n : Int) ≤ 4096 := by omega
  have hR := fun W => refused_c z0 z1 b a ha W
  rw [hl, Bool.not_true] at hR
  have hWW : ∀ W, Below w.heap.size w W → Wd W (some ⟨bb, off, none⟩) n cap zs := fun W hb => hW.below hb
  have hmr : 0 ≤ Wk.marked (zs.getD i 0) a.access ∧ Wk.marked (zs.getD i 0) a.access < 4294967296 := by unfold Wk.marked; split <;> exact Bt.put_rng _ _ _ _
  have ZZ : Hid (∀ j : Nat, 0 ≤ (zs.set i (Wk.marked (zs.getD i 0) a.access)).getD j 0 ∧ (zs.set i (Wk.marked (zs.getD i 0) a.access)).getD j 0 < 4294967296) := fun j => by
    rw [getD_set_int]
    split
    · exact hmr
    · exact hW.z0 j
  obtain ⟨r2, r3⟩ := field_small (zs.getD i 0) 10 22 (by decide)
  change Bt.field (zs.getD i 0) 10 22 < 4194304 at r3
  obtain ⟨q0, q1⟩ := Bt.put_rng (zs.getD i 0) 6 1 1
  have hp6 := fun W => Ref1.put_c (zs.getD i 0) 6 1 1 W z0 z1 (by decide) (by decide) (hidA (by decide))
  have hp7 := fun W => Ref1.put_c (Bt.put (zs.getD i 0) 6 1 1) 7 1 1 W q0 q1 (by decide) (by decide) (hidA (by decide))
  have hf22 := fun W => Ref1.field_c (zs.getD i 0) 10 22 W z0 z1 (hidA (by decide))
  have hf12 := fun W => Ref1.field_c a.va 12 10 W ha.va0 ha.va1 (hidA (by decide))
  have hf0 := fun W => Ref1.field_c a.va 0 12 W ha.va0 ha.va1 (hidA (by decide))
  rw [field_mod ha.va0 ha.va1] at hf0
  obtain ⟨v0, v1⟩ := Bt.field_rng a.va 12 10
  have hp0 := fun W => Ref1.put_c (Bt.field (zs.getD i 0) 10 22) 0 10 (Bt.field a.va 12 10) W r2 (by omega) v0 v1 (hidA (by decide))
  obtain ⟨ff0, ff1⟩ := Bt.put_rng (Bt.field (zs.getD i 0) 10 22) 0 10 (Bt.field a.va 12 10)
  have hfo : Hid (Wk.frameOf (zs.getD i 0) b a.va = (if b then Bt.put (Bt.field (zs.getD i 0) 10 22) 0 10 (Bt.field a.va 12 10) else Bt.field (zs.getD i 0) 10 22)) := rfl
  rw [hfo.out] at hfar
  have hmk : Hid (Wk.marked (zs.getD i 0) a.access = if a.access = 2 then Bt.put (Bt.put (zs.getD i 0) 6 1 1) 7 1 1 else Bt.put (zs.getD i 0) 6 1 1) := rfl
  rw [hmk.out] at ZZ ⊢
  clear hfo hmk hmr hl hcell hW
  generalize Bt.put (Bt.put (zs.getD i 0) 6 1 1) 7 1 1 = m2 at *
  generalize Bt.put (zs.getD i 0) 6 1 1 = m1 at *
  generalize Bt.put (Bt.field (zs.getD i 0) 10 22) 0 10 (Bt.field a.va 12 10) = ff at *
  generalize Bt.field (zs.getD i 0) 10 22 = fr at *
  generalize Bt.field a.va 12 10 = fv at *
  obtain ⟨x, HX⟩ : ∃ x, Hid (zs.getD i 0 = x) := ⟨_, rfl⟩
  rw [HX.out] at hx hR hp6 hf22 z0 z1
  have HX3 := fun o1 o2 o3 => Lib.cell?_alloc_some o3 (Lib.cell?_alloc_some o2 (Lib.cell?_alloc_some o1 hx))
  have lo0 : 0 ≤ a.va % 4096 := by omega
  have lo1 : a.va % 4096 < 4096 := by omega
  generalize a.va % 4096 = lo at *
  cases b with
  | true =>
    simp only [if_true] at hfar
    by_cases hac : a.access = 2
    · rw [if_pos hac] at ZZ ⊢
      have ha2 : (a.access == 2) = true := by rw [hac]; rfl
      clear hac
      generalize hm : m2 = m at *
      clear hm
      go_enter Try.func25, Try.ntmps25
      go_wp2_with (first | (go_at_call 37; refine (hR _).mono ?_; rintro e w1 ⟨rfl, b1⟩; clear hR HX3; obtain ⟨e0, e1, e2, B⟩ := alloc3_then b1; clear b1; obtain ⟨x0, x1, xf⟩ := cells2 e0; obtain ⟨y0, y1, y2, y3, y4, _⟩ := cells5 e1; have ltr := (Array.getElem?_eq_some_iff.1 e2).1; have E0 := Lib.hid e0; have E1 := Lib.hid e1; have E2 := Lib.hid e2; have X1 := (fun o => Lib.cell?_alloc_some o x1); clear e0 e1 e2) | (go_at_call 38; first | ((with_reducible refine (hp6 _).mono ?_); rintro e w' ⟨rfl, rfl⟩) | ((with_reducible refine (hp7 _).mono ?_); rintro e w' ⟨rfl, rfl⟩) | ((with_reducible refine (hp0 _).mono ?_); rintro e w' ⟨rfl, rfl⟩)) | (go_at_call 22; first | ((with_reducible refine (hf22 _).mono ?_); rintro e w' ⟨rfl, rfl⟩) | ((with_reducible refine (hf12 _).mono ?_); rintro e w' ⟨rfl, rfl⟩) | ((with_reducible refine (hf0 _).mono ?_); rintro e w' ⟨rfl, rfl⟩)) | (at_builtin; refine append_w (by go_simp) _ _ rfl w1.heap.size _ 0 [] rfl (World.ownsRow_made w1 #[] 0 (Nat.le_refl _) (Nat.zero_le _) rfl) rfl (hWW _ (Below.then B (alloc1_below w1 _))) (by omega) (by simp) ?_; intro u1 w2 o1 g1 _; clear hWW; have B1 := (alloc1_below w1 _).grown g1 (by simp) (by intro k hk; cases hk; exact Nat.le_refl _); rw [Nat.zero_add, List.nil_append] at o1; obtain ⟨gg, kap, rfl, hk1, hk2, hk3, RW⟩ := Row.of_owns o1 (by omega); have e0 := (B1.block _ (by omega)).trans E0.out; have e1 := (B1.block _ (by omega)).trans E1.out; have e2 := (B1.block _ ltr).trans E2.out; replace B := Below.then B B1; clear E0 E1 E2 X1 x0 x1 xf y0 y1 y2 y3 y4 o1 g1; obtain ⟨x0, x1, xf⟩ := cells2 e0; obtain ⟨y0, y1, y2, y3, y4, _⟩ := cells5 e1; obtain ⟨t0, t1, t2, t3, t4, tf⟩ := cells5 e2; have E0 := Lib.hid e0; have E1 := Lib.hid e1; have E2 := Lib.hid e2; have lts := B1.size; clear e0 e1 e2 B1; obtain ⟨rc, rf⟩ := RW.cell (i := i) (by omega); have hgg : w.heap.size ≤ gg := (by omega); have n0 : ¬ gg = w.heap.size := (by omega); have n1 : ¬ gg = w.heap.size + 1 := (by omega); have n2 : ¬ gg = w.heap.size + 1 + 1 := (by omega); have n3 : ¬ w.heap.size = gg := (by omega); have n4 : ¬ w.heap.size + 1 = gg := (by omega); have n5 : ¬ w.heap.size + 1 + 1 = gg := (by omega)) | (go_at_call 24; have B3 := Lib.hid ((B.setCell (p := ⟨gg, i, none⟩) (by show _ ≤ gg; omega) (.int .u32 m)).setCell (p := ⟨w.heap.size, 1, none⟩) (Nat.le_refl _) (.slice (some ⟨gg, 0, none⟩) n kap)); have e2 := ((Below.heap_setCell _ ⟨w.heap.size, 1, none⟩ (.slice (some ⟨gg, 0, none⟩) n kap) (w.heap.size + 1 + 1) (by show _ ≠ w.heap.size; omega)).trans (Below.heap_setCell w2 ⟨gg, i, none⟩ (.int .u32 m) (w.heap.size + 1 + 1) (by show _ ≠ gg; omega))).trans E2.out; have R3 := ((RW.put (i := i) (by omega) m).same (Below.heap_setCell _ ⟨w.heap.size, 1, none⟩ (.slice (some ⟨gg, 0, none⟩) n kap) gg n0)); refine (none_c _ _ _ _ _ a ha.acc _).mono ?_; rintro e w9 ⟨rfl, b9⟩; replace e2 := (b9.block _ (Array.getElem?_eq_some_iff.1 e2).1).trans e2; replace R3 := R3.same (b9.block _ R3.lt); replace B := Below.then B3.out b9; obtain ⟨u0, u1, u2, u3, u4, uf⟩ := cells5 e2; have E9 := Lib.hid e2; clear e2 b9 B3 x0 x1 xf y0 y1 y2 y3 y4) | (refine bodyPost_ret (retA rfl _ _ _ _ rfl (put5 E9.out _ _ _ _ _) rfl) rfl ⟨_, _, rfl, (R3.same (put5_other n2 _ _ _ _ _)).wd (by rw [List.length_set]; exact hk3) hk1 ZZ.out, (fun x e => by cases e; exact hgg), put5_below B (by omega) _ _ _ _ _⟩))
    · rw [if_neg hac] at ZZ ⊢
      have ha2 : (a.access == 2) = false := by rw [beq_eq_false_iff_ne]; exact hac
      clear hac
      generalize hm : m1 = m at *
      clear hm
      go_enter Try.func25, Try.ntmps25
      go_wp2_with (first | (go_at_call 37; refine (hR _).mono ?_; rintro e w1 ⟨rfl, b1⟩; clear hR HX3; obtain ⟨e0, e1, e2, B⟩ := alloc3_then b1; clear b1; obtain ⟨x0, x1, xf⟩ := cells2 e0; obtain ⟨y0, y1, y2, y3, y4, _⟩ := cells5 e1; have ltr := (Array.getElem?_eq_some_iff.1 e2).1; have E0 := Lib.hid e0; have E1 := Lib.hid e1; have E2 := Lib.hid e2; have X1 := (fun o => Lib.cell?_alloc_some o x1); clear e0 e1 e2) | (go_at_call 38; first | ((with_reducible refine (hp6 _).mono ?_); rintro e w' ⟨rfl, rfl⟩) | ((with_reducible refine (hp7 _).mono ?_); rintro e w' ⟨rfl, rfl⟩) | ((with_reducible refine (hp0 _).mono ?_); rintro e w' ⟨rfl, rfl⟩)) | (go_at_call 22; first | ((with_reducible refine (hf22 _).mono ?_); rintro e w' ⟨rfl, rfl⟩) | ((with_reducible refine (hf12 _).mono ?_); rintro e w' ⟨rfl, rfl⟩) | ((with_reducible refine (hf0 _).mono ?_); rintro e w' ⟨rfl, rfl⟩)) | (at_builtin; refine append_w (by go_simp) _ _ rfl w1.heap.size _ 0 [] rfl (World.ownsRow_made w1 #[] 0 (Nat.le_refl _) (Nat.zero_le _) rfl) rfl (hWW _ (Below.then B (alloc1_below w1 _))) (by omega) (by simp) ?_; intro u1 w2 o1 g1 _; clear hWW; have B1 := (alloc1_below w1 _).grown g1 (by simp) (by intro k hk; cases hk; exact Nat.le_refl _); rw [Nat.zero_add, List.nil_append] at o1; obtain ⟨gg, kap, rfl, hk1, hk2, hk3, RW⟩ := Row.of_owns o1 (by omega); have e0 := (B1.block _ (by omega)).trans E0.out; have e1 := (B1.block _ (by omega)).trans E1.out; have e2 := (B1.block _ ltr).trans E2.out; replace B := Below.then B B1; clear E0 E1 E2 X1 x0 x1 xf y0 y1 y2 y3 y4 o1 g1; obtain ⟨x0, x1, xf⟩ := cells2 e0; obtain ⟨y0, y1, y2, y3, y4, _⟩ := cells5 e1; obtain ⟨t0, t1, t2, t3, t4, tf⟩ := cells5 e2; have E0 := Lib.hid e0; have E1 := Lib.hid e1; have E2 := Lib.hid e2; have lts := B1.size; clear e0 e1 e2 B1; obtain ⟨rc, rf⟩ := RW.cell (i := i) (by omega); have hgg : w.heap.size ≤ gg := (by omega); have n0 : ¬ gg = w.heap.size := (by omega); have n1 : ¬ gg = w.heap.size + 1 := (by omega); have n2 : ¬ gg = w.heap.size + 1 + 1 := (by omega); have n3 : ¬ w.heap.size = gg := (by omega); have n4 : ¬ w.heap.size + 1 = gg := (by omega); have n5 : ¬ w.heap.size + 1 + 1 = gg := (by omega)) | (go_at_call 24; have B3 := Lib.hid ((B.setCell (p := ⟨gg, i, none⟩) (by show _ ≤ gg; omega) (.int .u32 m)).setCell (p := ⟨w.heap.size, 1, none⟩) (Nat.le_refl _) (.slice (some ⟨gg, 0, none⟩) n kap)); have e2 := ((Below.heap_setCell _ ⟨w.heap.size, 1, none⟩ (.slice (some ⟨gg, 0, none⟩) n kap) (w.heap.size + 1 + 1) (by show _ ≠ w.heap.size; omega)).trans (Below.heap_setCell w2 ⟨gg, i, none⟩ (.int .u32 m) (w.heap.size + 1 + 1) (by show _ ≠ gg; omega))).trans E2.out; have R3 := ((RW.put (i := i) (by omega) m).same (Below.heap_setCell _ ⟨w.heap.size, 1, none⟩ (.slice (some ⟨gg, 0, none⟩) n kap) gg n0)); refine (none_c _ _ _ _ _ a ha.acc _).mono ?_; rintro e w9 ⟨rfl, b9⟩; replace e2 := (b9.block _ (Array.getElem?_eq_some_iff.1 e2).1).trans e2; replace R3 := R3.same (b9.block _ R3.lt); replace B := Below.then B3.out b9; obtain ⟨u0, u1, u2, u3, u4, uf⟩ := cells5 e2; have E9 := Lib.hid e2; clear e2 b9 B3 x0 x1 xf y0 y1 y2 y3 y4) | (refine bodyPost_ret (retA rfl _ _ _ _ rfl (put5 E9.out _ _ _ _ _) rfl) rfl ⟨_, _, rfl, (R3.same (put5_other n2 _ _ _ _ _)).wd (by rw [List.length_set]; exact hk3) hk1 ZZ.out, (fun x e => by cases e; exact hgg), put5_below B (by omega) _ _ _ _ _⟩))
  | false =>
    simp only [Bool.false_eq_true, if_false] at hfar
    by_cases hac : a.access = 2
    · rw [if_pos hac] at ZZ ⊢
      have ha2 : (a.access == 2) = true := by rw [hac]; rfl
      clear hac
      generalize hm : m2 = m at *
      clear hm
      go_enter Try.func25, Try.ntmps25
      go_wp2_with (first | (go_at_call 37; refine (hR _).mono ?_; rintro e w1 ⟨rfl, b1⟩; clear hR HX3; obtain ⟨e0, e1, e2, B⟩ := alloc3_then b1; clear b1; obtain ⟨x0, x1, xf⟩ := cells2 e0; obtain ⟨y0, y1, y2, y3, y4, _⟩ := cells5 e1; have ltr := (Array.getElem?_eq_some_iff.1 e2).1; have E0 := Lib.hid e0; have E1 := Lib.hid e1; have E2 := Lib.hid e2; have X1 := (fun o => Lib.cell?_alloc_some o x1); clear e0 e1 e2) | (go_at_call 38; first | ((with_reducible refine (hp6 _).mono ?_); rintro e w' ⟨rfl, rfl⟩) | ((with_reducible refine (hp7 _).mono ?_); rintro e w' ⟨rfl, rfl⟩) | ((with_reducible refine (hp0 _).mono ?_); rintro e w' ⟨rfl, rfl⟩)) | (go_at_call 22; first | ((with_reducible refine (hf22 _).mono ?_); rintro e w' ⟨rfl, rfl⟩) | ((with_reducible refine (hf12 _).mono ?_); rintro e w' ⟨rfl, rfl⟩) | ((with_reducible refine (hf0 _).mono ?_); rintro e w' ⟨rfl, rfl⟩)) | (at_builtin; refine append_w (by go_simp) _ _ rfl w1.heap.size _ 0 [] rfl (World.ownsRow_made w1 #[] 0 (Nat.le_refl _) (Nat.zero_le _) rfl) rfl (hWW _ (Below.then B (alloc1_below w1 _))) (by omega) (by simp) ?_; intro u1 w2 o1 g1 _; clear hWW; have B1 := (alloc1_below w1 _).grown g1 (by simp) (by intro k hk; cases hk; exact Nat.le_refl _); rw [Nat.zero_add, List.nil_append] at o1; obtain ⟨gg, kap, rfl, hk1, hk2, hk3, RW⟩ := Row.of_owns o1 (by omega); have e0 := (B1.block _ (by omega)).trans E0.out; have e1 := (B1.block _ (by omega)).trans E1.out; have e2 := (B1.block _ ltr).trans E2.out; replace B := Below.then B B1; clear E0 E1 E2 X1 x0 x1 xf y0 y1 y2 y3 y4 o1 g1; obtain ⟨x0, x1, xf⟩ := cells2 e0; obtain ⟨y0, y1, y2, y3, y4, _⟩ := cells5 e1; obtain ⟨t0, t1, t2, t3, t4, tf⟩ := cells5 e2; have E0 := Lib.hid e0; have E1 := Lib.hid e1; have E2 := Lib.hid e2; have lts := B1.size; clear e0 e1 e2 B1; obtain ⟨rc, rf⟩ := RW.cell (i := i) (by omega); have hgg : w.heap.size ≤ gg := (by omega); have n0 : ¬ gg = w.heap.size := (by omega); have n1 : ¬ gg = w.heap.size + 1 := (by omega); have n2 : ¬ gg = w.heap.size + 1 + 1 := (by omega); have n3 : ¬ w.heap.size = gg := (by omega); have n4 : ¬ w.heap.size + 1 = gg := (by omega); have n5 : ¬ w.heap.size + 1 + 1 = gg := (by omega)) | (go_at_call 24; have B3 := Lib.hid ((B.setCell (p := ⟨gg, i, none⟩) (by show _ ≤ gg; omega) (.int .u32 m)).setCell (p := ⟨w.heap.size, 1, none⟩) (Nat.le_refl _) (.slice (some ⟨gg, 0, none⟩) n kap)); have e2 := ((Below.heap_setCell _ ⟨w.heap.size, 1, none⟩ (.slice (some ⟨gg, 0, none⟩) n kap) (w.heap.size + 1 + 1) (by show _ ≠ w.heap.size; omega)).trans (Below.heap_setCell w2 ⟨gg, i, none⟩ (.int .u32 m) (w.heap.size + 1 + 1) (by show _ ≠ gg; omega))).trans E2.out; have R3 := ((RW.put (i := i) (by omega) m).same (Below.heap_setCell _ ⟨w.heap.size, 1, none⟩ (.slice (some ⟨gg, 0, none⟩) n kap) gg n0)); refine (none_c _ _ _ _ _ a ha.acc _).mono ?_; rintro e w9 ⟨rfl, b9⟩; replace e2 := (b9.block _ (Array.getElem?_eq_some_iff.1 e2).1).trans e2; replace R3 := R3.same (b9.block _ R3.lt); replace B := Below.then B3.out b9; obtain ⟨u0, u1, u2, u3, u4, uf⟩ := cells5 e2; have E9 := Lib.hid e2; clear e2 b9 B3 x0 x1 xf y0 y1 y2 y3 y4) | (refine bodyPost_ret (retA rfl _ _ _ _ rfl (put5 E9.out _ _ _ _ _) rfl) rfl ⟨_, _, rfl, (R3.same (put5_other n2 _ _ _ _ _)).wd (by rw [List.length_set]; exact hk3) hk1 ZZ.out, (fun x e => by cases e; exact hgg), put5_below B (by omega) _ _ _ _ _⟩))
    · rw [if_neg hac] at ZZ ⊢
      have ha2 : (a.access == 2) = false := by rw [beq_eq_false_iff_ne]; exact hac
      clear hac
      generalize hm : m1 = m at *
      clear hm
      go_enter Try.func25, Try.ntmps25
      go_wp2_with (first | (go_at_call 37; refine (hR _).mono ?_; rintro e w1 ⟨rfl, b1⟩; clear hR HX3; obtain ⟨e0, e1, e2, B⟩ := alloc3_then b1; clear b1; obtain ⟨x0, x1, xf⟩ := cells2 e0; obtain ⟨y0, y1, y2, y3, y4, _⟩ := cells5 e1; have ltr := (Array.getElem?_eq_some_iff.1 e2).1; have E0 := Lib.hid e0; have E1 := Lib.hid e1; have E2 := Lib.hid e2; have X1 := (fun o => Lib.cell?_alloc_some o x1); clear e0 e1 e2) | (go_at_call 38; first | ((with_reducible refine (hp6 _).mono ?_); rintro e w' ⟨rfl, rfl⟩) | ((with_reducible refine (hp7 _).mono ?_); rintro e w' ⟨rfl, rfl⟩) | ((with_reducible refine (hp0 _).mono ?_); rintro e w' ⟨rfl, rfl⟩)) | (go_at_call 22; first | ((with_reducible refine (hf22 _).mono ?_); rintro e w' ⟨rfl, rfl⟩) | ((with_reducible refine (hf12 _).mono ?_); rintro e w' ⟨rfl, rfl⟩) | ((with_reducible refine (hf0 _).mono ?_); rintro e w' ⟨rfl, rfl⟩)) | (at_builtin; refine append_w (by go_simp) _ _ rfl w1.heap.size _ 0 [] rfl (World.ownsRow_made w1 #[] 0 (Nat.le_refl _) (Nat.zero_le _) rfl) rfl (hWW _ (Below.then B (alloc1_below w1 _))) (by omega) (by simp) ?_; intro u1 w2 o1 g1 _; clear hWW; have B1 := (alloc1_below w1 _).grown g1 (by simp) (by intro k hk; cases hk; exact Nat.le_refl _); rw [Nat.zero_add, List.nil_append] at o1; obtain ⟨gg, kap, rfl, hk1, hk2, hk3, RW⟩ := Row.of_owns o1 (by omega); have e0 := (B1.block _ (by omega)).trans E0.out; have e1 := (B1.block _ (by omega)).trans E1.out; have e2 := (B1.block _ ltr).trans E2.out; replace B := Below.then B B1; clear E0 E1 E2 X1 x0 x1 xf y0 y1 y2 y3 y4 o1 g1; obtain ⟨x0, x1, xf⟩ := cells2 e0; obtain ⟨y0, y1, y2, y3, y4, _⟩ := cells5 e1; obtain ⟨t0, t1, t2, t3, t4, tf⟩ := cells5 e2; have E0 := Lib.hid e0; have E1 := Lib.hid e1; have E2 := Lib.hid e2; have lts := B1.size; clear e0 e1 e2 B1; obtain ⟨rc, rf⟩ := RW.cell (i := i) (by omega); have hgg : w.heap.size ≤ gg := (by omega); have n0 : ¬ gg = w.heap.size := (by omega); have n1 : ¬ gg = w.heap.size + 1 := (by omega); have n2 : ¬ gg = w.heap.size + 1 + 1 := (by omega); have n3 : ¬ w.heap.size = gg := (by omega); have n4 : ¬ w.heap.size + 1 = gg := (by omega); have n5 : ¬ w.heap.size + 1 + 1 = gg := (by omega)) | (go_at_call 24; have B3 := Lib.hid ((B.setCell (p := ⟨gg, i, none⟩) (by show _ ≤ gg; omega) (.int .u32 m)).setCell (p := ⟨w.heap.size, 1, none⟩) (Nat.le_refl _) (.slice (some ⟨gg, 0, none⟩) n kap)); have e2 := ((Below.heap_setCell _ ⟨w.heap.size, 1, none⟩ (.slice (some ⟨gg, 0, none⟩) n kap) (w.heap.size + 1 + 1) (by show _ ≠ w.heap.size; omega)).trans (Below.heap_setCell w2 ⟨gg, i, none⟩ (.int .u32 m) (w.heap.size + 1 + 1) (by show _ ≠ gg; omega))).trans E2.out; have R3 := ((RW.put (i := i) (by omega) m).same (Below.heap_setCell _ ⟨w.heap.size, 1, none⟩ (.slice (some ⟨gg, 0, none⟩) n kap) gg n0)); refine (none_c _ _ _ _ _ a ha.acc _).mono ?_; rintro e w9 ⟨rfl, b9⟩; replace e2 := (b9.block _ (Array.getElem?_eq_some_iff.1 e2).1).trans e2; replace R3 := R3.same (b9.block _ R3.lt); replace B := Below.then B3.out b9; obtain ⟨u0, u1, u2, u3, u4, uf⟩ := cells5 e2; have E9 := Lib.hid e2; clear e2 b9 B3 x0 x1 xf y0 y1 y2 y3 y4) | (refine bodyPost_ret (retA rfl _ _ _ _ rfl (put5 E9.out _ _ _ _ _) rfl) rfl ⟨_, _, rfl, (R3.same (put5_other n2 _ _ _ _ _)).wd (by rw [List.length_set]; exact hk3) hk1 ZZ.out, (fun x e => by cases e; exact hgg), put5_below B (by omega) _ _ _ _ _⟩))
set_option maxHeartbeats 2000000 in
set_option maxRecDepth 100000 in
theorem leaf_ok {w : World} {base : Int} {ad : Option Addr} {n cap : Nat} {zs : List Int} (hW : Wd w ad n cap zs) (hn4 : n ≤ 4096) (a : Wk.Ask) (ha : a.Ok) {i : Nat} (hi : i < n) (b : Bool) (hl : Wk.lets (zs.getD i 0) b a = true) (hfar : Wk.frameOf (zs.getD i 0) b a.va < 1048576) :
    Calls Try.prog 25 #[ramv base ad n cap, .agg #[.int .u32 a.va, .int .u32 a.satp, .int .u32 a.status, .int .i64 a.access, .int .i64 a.priv], .int .i64 i, .bool b] w fun e w' => ∃ a' k', e = .returned (ansv (Wk.frameOf (zs.getD i 0) b a.va * 4096 + a.va % 4096) 0 true base a' n k') ∧ Wd w' a' n k' (zs.set i (Wk.marked (zs.getD i 0) a.access)) ∧ (∀ x, a' = some x → w.heap.size ≤ x.block) ∧ Below w.heap.size w w' := by
  obtain ⟨bb, off, rfl, hcell⟩ := hW.at_ hi
  have hx := hcell i hi
  obtain ⟨z0, z1⟩ := hW.z0 i
  have hi2 : (i : Int) < (n : Int) := by omega
  have hn5 : (n : Int) ≤ 4096 := by omega
  have hR := fun W => refused_c z0 z1 b a ha W
  rw [hl, Bool.not_true] at hR
  have hWW : ∀ W, Below w.heap.size w W → Wd W (some ⟨bb, off, none⟩) n cap zs := fun W hb => hW.below hb
  have hmr : 0 ≤ Wk.marked (zs.getD i 0) a.access ∧ Wk.marked (zs.getD i 0) a.access < 4294967296 := by unfold Wk.marked; split <;> exact Bt.put_rng _ _ _ _
  have ZZ : Hid (∀ j : Nat, 0 ≤ (zs.set i (Wk.marked (zs.getD i 0) a.access)).getD j 0 ∧ (zs.set i (Wk.marked (zs.getD i 0) a.access)).getD j 0 < 4294967296) := fun j => by
    rw [getD_set_int]
    split
    · exact hmr
    · exact hW.z0 j
  obtain ⟨r2, r3⟩ := field_small (zs.getD i 0) 10 22 (by decide)
  change Bt.field (zs.getD i 0) 10 22 < 4194304 at r3
  obtain ⟨q0, q1⟩ := Bt.put_rng (zs.getD i 0) 6 1 1
  have hp6 := fun W => Ref1.put_c (zs.getD i 0) 6 1 1 W z0 z1 (by decide) (by decide) (hidA (by decide))
  have hp7 := fun W => Ref1.put_c (Bt.put (zs.getD i 0) 6 1 1) 7 1 1 W q0 q1 (by decide) (by decide) (hidA (by decide))
  have hf22 := fun W => Ref1.field_c (zs.getD i 0) 10 22 W z0 z1 (hidA (by decide))
  have hf12 := fun W => Ref1.field_c a.va 12 10 W ha.va0 ha.va1 (hidA (by decide))
  have hf0 := fun W => Ref1.field_c a.va 0 12 W ha.va0 ha.va1 (hidA (by decide))
  rw [field_mod ha.va0 ha.va1] at hf0
  obtain ⟨v0, v1⟩ := Bt.field_rng a.va 12 10
  have hp0 := fun W => Ref1.put_c (Bt.field (zs.getD i 0) 10 22) 0 10 (Bt.field a.va 12 10) W r2 (by omega) v0 v1 (hidA (by decide))
  obtain ⟨ff0, ff1⟩ := Bt.put_rng (Bt.field (zs.getD i 0) 10 22) 0 10 (Bt.field a.va 12 10)
  have hfo : Hid (Wk.frameOf (zs.getD i 0) b a.va = (if b then Bt.put (Bt.field (zs.getD i 0) 10 22) 0 10 (Bt.field a.va 12 10) else Bt.field (zs.getD i 0) 10 22)) := rfl
  rw [hfo.out] at hfar ⊢
  have hmk : Hid (Wk.marked (zs.getD i 0) a.access = if a.access = 2 then Bt.put (Bt.put (zs.getD i 0) 6 1 1) 7 1 1 else Bt.put (zs.getD i 0) 6 1 1) := rfl
  rw [hmk.out] at ZZ ⊢
  clear hfo hmk hmr hl hcell hW
  generalize Bt.put (Bt.put (zs.getD i 0) 6 1 1) 7 1 1 = m2 at *
  generalize Bt.put (zs.getD i 0) 6 1 1 = m1 at *
  generalize Bt.put (Bt.field (zs.getD i 0) 10 22) 0 10 (Bt.field a.va 12 10) = ff at *
  generalize Bt.field (zs.getD i 0) 10 22 = fr at *
  generalize Bt.field a.va 12 10 = fv at *
  obtain ⟨x, HX⟩ : ∃ x, Hid (zs.getD i 0 = x) := ⟨_, rfl⟩
  rw [HX.out] at hx hR hp6 hf22 z0 z1
  have HX3 := fun o1 o2 o3 => Lib.cell?_alloc_some o3 (Lib.cell?_alloc_some o2 (Lib.cell?_alloc_some o1 hx))
  have lo0 : 0 ≤ a.va % 4096 := by omega
  have lo1 : a.va % 4096 < 4096 := by omega
  generalize a.va % 4096 = lo at *
  cases b with
  | true =>
    simp only [if_true] at hfar ⊢
    by_cases hac : a.access = 2
    · rw [if_pos hac] at ZZ ⊢
      have ha2 : (a.access == 2) = true := by rw [hac]; rfl
      clear hac
      generalize hm : m2 = m at *
      clear hm
      go_enter Try.func25, Try.ntmps25
      go_wp2_with (first | (go_at_call 37; refine (hR _).mono ?_; rintro e w1 ⟨rfl, b1⟩; clear hR HX3; obtain ⟨e0, e1, e2, B⟩ := alloc3_then b1; clear b1; obtain ⟨x0, x1, xf⟩ := cells2 e0; obtain ⟨y0, y1, y2, y3, y4, _⟩ := cells5 e1; have ltr := (Array.getElem?_eq_some_iff.1 e2).1; have E0 := Lib.hid e0; have E1 := Lib.hid e1; have E2 := Lib.hid e2; have X1 := (fun o => Lib.cell?_alloc_some o x1); clear e0 e1 e2) | (go_at_call 38; first | ((with_reducible refine (hp6 _).mono ?_); rintro e w' ⟨rfl, rfl⟩) | ((with_reducible refine (hp7 _).mono ?_); rintro e w' ⟨rfl, rfl⟩) | ((with_reducible refine (hp0 _).mono ?_); rintro e w' ⟨rfl, rfl⟩)) | (go_at_call 22; first | ((with_reducible refine (hf22 _).mono ?_); rintro e w' ⟨rfl, rfl⟩) | ((with_reducible refine (hf12 _).mono ?_); rintro e w' ⟨rfl, rfl⟩) | ((with_reducible refine (hf0 _).mono ?_); rintro e w' ⟨rfl, rfl⟩)) | (at_builtin; refine append_w (by go_simp) _ _ rfl w1.heap.size _ 0 [] rfl (World.ownsRow_made w1 #[] 0 (Nat.le_refl _) (Nat.zero_le _) rfl) rfl (hWW _ (Below.then B (alloc1_below w1 _))) (by omega) (by simp) ?_; intro u1 w2 o1 g1 _; clear hWW; have B1 := (alloc1_below w1 _).grown g1 (by simp) (by intro k hk; cases hk; exact Nat.le_refl _); rw [Nat.zero_add, List.nil_append] at o1; obtain ⟨gg, kap, rfl, hk1, hk2, hk3, RW⟩ := Row.of_owns o1 (by omega); have e0 := (B1.block _ (by omega)).trans E0.out; have e1 := (B1.block _ (by omega)).trans E1.out; have e2 := (B1.block _ ltr).trans E2.out; replace B := Below.then B B1; clear E0 E1 E2 X1 x0 x1 xf y0 y1 y2 y3 y4 o1 g1; obtain ⟨x0, x1, xf⟩ := cells2 e0; obtain ⟨y0, y1, y2, y3, y4, _⟩ := cells5 e1; obtain ⟨t0, t1, t2, t3, t4, tf⟩ := cells5 e2; have E0 := Lib.hid e0; have E1 := Lib.hid e1; have E2 := Lib.hid e2; have lts := B1.size; clear e0 e1 e2 B1; obtain ⟨rc, rf⟩ := RW.cell (i := i) (by omega); have hgg : w.heap.size ≤ gg := (by omega); have n0 : ¬ gg = w.heap.size := (by omega); have n1 : ¬ gg = w.heap.size + 1 := (by omega); have n2 : ¬ gg = w.heap.size + 1 + 1 := (by omega); have n3 : ¬ w.heap.size = gg := (by omega); have n4 : ¬ w.heap.size + 1 = gg := (by omega); have n5 : ¬ w.heap.size + 1 + 1 = gg := (by omega)) | fail | (refine bodyPost_ret (retA rfl _ _ _ _ rfl (put5 (((Below.heap_setCell _ ⟨w.heap.size, 1, none⟩ (.slice (some ⟨gg, 0, none⟩) n kap) (w.heap.size + 1 + 1) (by show _ ≠ w.heap.size; omega)).trans (Below.heap_setCell w2 ⟨gg, i, none⟩ (.int .u32 m) (w.heap.size + 1 + 1) (by show _ ≠ gg; omega))).trans E2.out) _ _ _ _ _) rfl) rfl ⟨_, _, rfl, ((((RW.put (i := i) (by omega) m).same (Below.heap_setCell _ ⟨w.heap.size, 1, none⟩ _ gg n0))).same (put5_other n2 _ _ _ _ _)).wd (by rw [List.length_set]; exact hk3) hk1 ZZ.out, (fun x e => by cases e; exact hgg), put5_below ((B.setCell (p := ⟨gg, i, none⟩) (by show _ ≤ gg; omega) (.int .u32 m)).setCell (p := ⟨w.heap.size, 1, none⟩) (Nat.le_refl _) (.slice (some ⟨gg, 0, none⟩) n kap)) (by omega) _ _ _ _ _⟩))
    · rw [if_neg hac] at ZZ ⊢
      have ha2 : (a.access == 2) = false := by rw [beq_eq_false_iff_ne]; exact hac
      clear hac
      generalize hm : m1 = m at *
      clear hm
      go_enter Try.func25, Try.ntmps25
      go_wp2_with (first | (go_at_call 37; refine (hR _).mono ?_; rintro e w1 ⟨rfl, b1⟩; clear hR HX3; obtain ⟨e0, e1, e2, B⟩ := alloc3_then b1; clear b1; obtain ⟨x0, x1, xf⟩ := cells2 e0; obtain ⟨y0, y1, y2, y3, y4, _⟩ := cells5 e1; have ltr := (Array.getElem?_eq_some_iff.1 e2).1; have E0 := Lib.hid e0; have E1 := Lib.hid e1; have E2 := Lib.hid e2; have X1 := (fun o => Lib.cell?_alloc_some o x1); clear e0 e1 e2) | (go_at_call 38; first | ((with_reducible refine (hp6 _).mono ?_); rintro e w' ⟨rfl, rfl⟩) | ((with_reducible refine (hp7 _).mono ?_); rintro e w' ⟨rfl, rfl⟩) | ((with_reducible refine (hp0 _).mono ?_); rintro e w' ⟨rfl, rfl⟩)) | (go_at_call 22; first | ((with_reducible refine (hf22 _).mono ?_); rintro e w' ⟨rfl, rfl⟩) | ((with_reducible refine (hf12 _).mono ?_); rintro e w' ⟨rfl, rfl⟩) | ((with_reducible refine (hf0 _).mono ?_); rintro e w' ⟨rfl, rfl⟩)) | (at_builtin; refine append_w (by go_simp) _ _ rfl w1.heap.size _ 0 [] rfl (World.ownsRow_made w1 #[] 0 (Nat.le_refl _) (Nat.zero_le _) rfl) rfl (hWW _ (Below.then B (alloc1_below w1 _))) (by omega) (by simp) ?_; intro u1 w2 o1 g1 _; clear hWW; have B1 := (alloc1_below w1 _).grown g1 (by simp) (by intro k hk; cases hk; exact Nat.le_refl _); rw [Nat.zero_add, List.nil_append] at o1; obtain ⟨gg, kap, rfl, hk1, hk2, hk3, RW⟩ := Row.of_owns o1 (by omega); have e0 := (B1.block _ (by omega)).trans E0.out; have e1 := (B1.block _ (by omega)).trans E1.out; have e2 := (B1.block _ ltr).trans E2.out; replace B := Below.then B B1; clear E0 E1 E2 X1 x0 x1 xf y0 y1 y2 y3 y4 o1 g1; obtain ⟨x0, x1, xf⟩ := cells2 e0; obtain ⟨y0, y1, y2, y3, y4, _⟩ := cells5 e1; obtain ⟨t0, t1, t2, t3, t4, tf⟩ := cells5 e2; have E0 := Lib.hid e0; have E1 := Lib.hid e1; have E2 := Lib.hid e2; have lts := B1.size; clear e0 e1 e2 B1; obtain ⟨rc, rf⟩ := RW.cell (i := i) (by omega); have hgg : w.heap.size ≤ gg := (by omega); have n0 : ¬ gg = w.heap.size := (by omega); have n1 : ¬ gg = w.heap.size + 1 := (by omega); have n2 : ¬ gg = w.heap.size + 1 + 1 := (by omega); have n3 : ¬ w.heap.size = gg := (by omega); have n4 : ¬ w.heap.size + 1 = gg := (by omega); have n5 : ¬ w.heap.size + 1 + 1 = gg := (by omega)) | fail | (refine bodyPost_ret (retA rfl _ _ _ _ rfl (put5 (((Below.heap_setCell _ ⟨w.heap.size, 1, none⟩ (.slice (some ⟨gg, 0, none⟩) n kap) (w.heap.size + 1 + 1) (by show _ ≠ w.heap.size; omega)).trans (Below.heap_setCell w2 ⟨gg, i, none⟩ (.int .u32 m) (w.heap.size + 1 + 1) (by show _ ≠ gg; omega))).trans E2.out) _ _ _ _ _) rfl) rfl ⟨_, _, rfl, ((((RW.put (i := i) (by omega) m).same (Below.heap_setCell _ ⟨w.heap.size, 1, none⟩ _ gg n0))).same (put5_other n2 _ _ _ _ _)).wd (by rw [List.length_set]; exact hk3) hk1 ZZ.out, (fun x e => by cases e; exact hgg), put5_below ((B.setCell (p := ⟨gg, i, none⟩) (by show _ ≤ gg; omega) (.int .u32 m)).setCell (p := ⟨w.heap.size, 1, none⟩) (Nat.le_refl _) (.slice (some ⟨gg, 0, none⟩) n kap)) (by omega) _ _ _ _ _⟩))
  | false =>
    simp only [Bool.false_eq_true, if_false] at hfar ⊢
    by_cases hac : a.access = 2
    · rw [if_pos hac] at ZZ ⊢
      have ha2 : (a.access == 2) = true := by rw [hac]; rfl
      clear hac
      generalize hm : m2 = m at *
      clear hm
      go_enter Try.func25, Try.ntmps25
      go_wp2_with (first | (go_at_call 37; refine (hR _).mono ?_; rintro e w1 ⟨rfl, b1⟩; clear hR HX3; obtain ⟨e0, e1, e2, B⟩ := alloc3_then b1; clear b1; obtain ⟨x0, x1, xf⟩ := cells2 e0; obtain ⟨y0, y1, y2, y3, y4, _⟩ := cells5 e1; have ltr := (Array.getElem?_eq_some_iff.1 e2).1; have E0 := Lib.hid e0; have E1 := Lib.hid e1; have E2 := Lib.hid e2; have X1 := (fun o => Lib.cell?_alloc_some o x1); clear e0 e1 e2) | (go_at_call 38; first | ((with_reducible refine (hp6 _).mono ?_); rintro e w' ⟨rfl, rfl⟩) | ((with_reducible refine (hp7 _).mono ?_); rintro e w' ⟨rfl, rfl⟩) | ((with_reducible refine (hp0 _).mono ?_); rintro e w' ⟨rfl, rfl⟩)) | (go_at_call 22; first | ((with_reducible refine (hf22 _).mono ?_); rintro e w' ⟨rfl, rfl⟩) | ((with_reducible refine (hf12 _).mono ?_); rintro e w' ⟨rfl, rfl⟩) | ((with_reducible refine (hf0 _).mono ?_); rintro e w' ⟨rfl, rfl⟩)) | (at_builtin; refine append_w (by go_simp) _ _ rfl w1.heap.size _ 0 [] rfl (World.ownsRow_made w1 #[] 0 (Nat.le_refl _) (Nat.zero_le _) rfl) rfl (hWW _ (Below.then B (alloc1_below w1 _))) (by omega) (by simp) ?_; intro u1 w2 o1 g1 _; clear hWW; have B1 := (alloc1_below w1 _).grown g1 (by simp) (by intro k hk; cases hk; exact Nat.le_refl _); rw [Nat.zero_add, List.nil_append] at o1; obtain ⟨gg, kap, rfl, hk1, hk2, hk3, RW⟩ := Row.of_owns o1 (by omega); have e0 := (B1.block _ (by omega)).trans E0.out; have e1 := (B1.block _ (by omega)).trans E1.out; have e2 := (B1.block _ ltr).trans E2.out; replace B := Below.then B B1; clear E0 E1 E2 X1 x0 x1 xf y0 y1 y2 y3 y4 o1 g1; obtain ⟨x0, x1, xf⟩ := cells2 e0; obtain ⟨y0, y1, y2, y3, y4, _⟩ := cells5 e1; obtain ⟨t0, t1, t2, t3, t4, tf⟩ := cells5 e2; have E0 := Lib.hid e0; have E1 := Lib.hid e1; have E2 := Lib.hid e2; have lts := B1.size; clear e0 e1 e2 B1; obtain ⟨rc, rf⟩ := RW.cell (i := i) (by omega); have hgg : w.heap.size ≤ gg := (by omega); have n0 : ¬ gg = w.heap.size := (by omega); have n1 : ¬ gg = w.heap.size + 1 := (by omega); have n2 : ¬ gg = w.heap.size + 1 + 1 := (by omega); have n3 : ¬ w.heap.size = gg := (by omega); have n4 : ¬ w.heap.size + 1 = gg := (by omega); have n5 : ¬ w.heap.size + 1 + 1 = gg := (by omega)) | fail | (refine bodyPost_ret (retA rfl _ _ _ _ rfl (put5 (((Below.heap_setCell _ ⟨w.heap.size, 1, none⟩ (.slice (some ⟨gg, 0, none⟩) n kap) (w.heap.size + 1 + 1) (by show _ ≠ w.heap.size; omega)).trans (Below.heap_setCell w2 ⟨gg, i, none⟩ (.int .u32 m) (w.heap.size + 1 + 1) (by show _ ≠ gg; omega))).trans E2.out) _ _ _ _ _) rfl) rfl ⟨_, _, rfl, ((((RW.put (i := i) (by omega) m).same (Below.heap_setCell _ ⟨w.heap.size, 1, none⟩ _ gg n0))).same (put5_other n2 _ _ _ _ _)).wd (by rw [List.length_set]; exact hk3) hk1 ZZ.out, (fun x e => by cases e; exact hgg), put5_below ((B.setCell (p := ⟨gg, i, none⟩) (by show _ ≤ gg; omega) (.int .u32 m)).setCell (p := ⟨w.heap.size, 1, none⟩) (Nat.le_refl _) (.slice (some ⟨gg, 0, none⟩) n kap)) (by omega) _ _ _ _ _⟩))
    · rw [if_neg hac] at ZZ ⊢
      have ha2 : (a.access == 2) = false := by rw [beq_eq_false_iff_ne]; exact hac
      clear hac
      generalize hm : m1 = m at *
      clear hm
      go_enter Try.func25, Try.ntmps25
      go_wp2_with (first | (go_at_call 37; refine (hR _).mono ?_; rintro e w1 ⟨rfl, b1⟩; clear hR HX3; obtain ⟨e0, e1, e2, B⟩ := alloc3_then b1; clear b1; obtain ⟨x0, x1, xf⟩ := cells2 e0; obtain ⟨y0, y1, y2, y3, y4, _⟩ := cells5 e1; have ltr := (Array.getElem?_eq_some_iff.1 e2).1; have E0 := Lib.hid e0; have E1 := Lib.hid e1; have E2 := Lib.hid e2; have X1 := (fun o => Lib.cell?_alloc_some o x1); clear e0 e1 e2) | (go_at_call 38; first | ((with_reducible refine (hp6 _).mono ?_); rintro e w' ⟨rfl, rfl⟩) | ((with_reducible refine (hp7 _).mono ?_); rintro e w' ⟨rfl, rfl⟩) | ((with_reducible refine (hp0 _).mono ?_); rintro e w' ⟨rfl, rfl⟩)) | (go_at_call 22; first | ((with_reducible refine (hf22 _).mono ?_); rintro e w' ⟨rfl, rfl⟩) | ((with_reducible refine (hf12 _).mono ?_); rintro e w' ⟨rfl, rfl⟩) | ((with_reducible refine (hf0 _).mono ?_); rintro e w' ⟨rfl, rfl⟩)) | (at_builtin; refine append_w (by go_simp) _ _ rfl w1.heap.size _ 0 [] rfl (World.ownsRow_made w1 #[] 0 (Nat.le_refl _) (Nat.zero_le _) rfl) rfl (hWW _ (Below.then B (alloc1_below w1 _))) (by omega) (by simp) ?_; intro u1 w2 o1 g1 _; clear hWW; have B1 := (alloc1_below w1 _).grown g1 (by simp) (by intro k hk; cases hk; exact Nat.le_refl _); rw [Nat.zero_add, List.nil_append] at o1; obtain ⟨gg, kap, rfl, hk1, hk2, hk3, RW⟩ := Row.of_owns o1 (by omega); have e0 := (B1.block _ (by omega)).trans E0.out; have e1 := (B1.block _ (by omega)).trans E1.out; have e2 := (B1.block _ ltr).trans E2.out; replace B := Below.then B B1; clear E0 E1 E2 X1 x0 x1 xf y0 y1 y2 y3 y4 o1 g1; obtain ⟨x0, x1, xf⟩ := cells2 e0; obtain ⟨y0, y1, y2, y3, y4, _⟩ := cells5 e1; obtain ⟨t0, t1, t2, t3, t4, tf⟩ := cells5 e2; have E0 := Lib.hid e0; have E1 := Lib.hid e1; have E2 := Lib.hid e2; have lts := B1.size; clear e0 e1 e2 B1; obtain ⟨rc, rf⟩ := RW.cell (i := i) (by omega); have hgg : w.heap.size ≤ gg := (by omega); have n0 : ¬ gg = w.heap.size := (by omega); have n1 : ¬ gg = w.heap.size + 1 := (by omega); have n2 : ¬ gg = w.heap.size + 1 + 1 := (by omega); have n3 : ¬ w.heap.size = gg := (by omega); have n4 : ¬ w.heap.size + 1 = gg := (by omega); have n5 : ¬ w.heap.size + 1 + 1 = gg := (by omega)) | fail | (refine bodyPost_ret (retA rfl _ _ _ _ rfl (put5 (((Below.heap_setCell _ ⟨w.heap.size, 1, none⟩ (.slice (some ⟨gg, 0, none⟩) n kap) (w.heap.size + 1 + 1) (by show _ ≠ w.heap.size; omega)).trans (Below.heap_setCell w2 ⟨gg, i, none⟩ (.int .u32 m) (w.heap.size + 1 + 1) (by show _ ≠ gg; omega))).trans E2.out) _ _ _ _ _) rfl) rfl ⟨_, _, rfl, ((((RW.put (i := i) (by omega) m).same (Below.heap_setCell _ ⟨w.heap.size, 1, none⟩ _ gg n0))).same (put5_other n2 _ _ _ _ _)).wd (by rw [List.length_set]; exact hk3) hk1 ZZ.out, (fun x e => by cases e; exact hgg), put5_below ((B.setCell (p := ⟨gg, i, none⟩) (by show _ ≤ gg; omega) (.int .u32 m)).setCell (p := ⟨w.heap.size, 1, none⟩) (Nat.le_refl _) (.slice (some ⟨gg, 0, none⟩) n kap)) (by omega) _ _ _ _ _⟩))
end Ref15
end Go.Proofs.Ytejgaldeamjplaa
