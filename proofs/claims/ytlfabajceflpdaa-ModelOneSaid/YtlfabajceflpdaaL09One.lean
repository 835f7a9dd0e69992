/- ModelOne: what is done may be, and nothing else of that sector; what was begun may be in two ways, and no third one. No condition. -/
import Derived.Test.YtlfabajceflpdaaAny9
import Derived.Test.YtlfabajceflpdaaOne9
import Derived.Deep.RegionHeld3
namespace Go.Proofs.Ytlfabajceflpdaa
open Go.RowKit Md
set_option linter.unusedVariables false
attribute [local go_sem] max2_int min2_int max_two min_two Sec.eqx Sec.guardx
set_option linter.unusedSimpArgs false
set_option linter.unusedVariables false
theorem makeFunc_run9 {P : Program} (fn : Fn) (first cap : Array Value) (w : World) : (Instr.makeFunc fn first cap).run P w = .ok (.func fn first cap) w := rfl
namespace L09One
theorem cells1 {w : World} {b : Nat} {c0 : Value} {t : TypeId} (h : w.heap[b]? = some (.cells #[c0] t (0, 0))) : w.cell? ⟨b, 0, none⟩ = some c0 ∧ ∀ i, w.frozen? ⟨b, i, none⟩ = false := by
  simp only [World.cell?, World.frozen?, h]
  simp
theorem cells12 {w : World} {b : Nat} {c0 c1 c2 c3 c4 c5 c6 c7 c8 c9 c10 c11 : Value} {t : TypeId} (h : w.heap[b]? = some (.cells #[c0, c1, c2, c3, c4, c5, c6, c7, c8, c9, c10, c11] t (0, 0))) : w.cell? ⟨b, 0, none⟩ = some c0 ∧ w.cell? ⟨b, 1, none⟩ = some c1 ∧ w.cell? ⟨b, 2, none⟩ = some c2 ∧ w.cell? ⟨b, 3, none⟩ = some c3 ∧ w.cell? ⟨b, 4, none⟩ = some c4 ∧ w.cell? ⟨b, 5, none⟩ = some c5 ∧ w.cell? ⟨b, 6, none⟩ = some c6 ∧ w.cell? ⟨b, 7, none⟩ = some c7 ∧ w.cell? ⟨b, 8, none⟩ = some c8 ∧ w.cell? ⟨b, 9, none⟩ = some c9 ∧ w.cell? ⟨b, 10, none⟩ = some c10 ∧ w.cell? ⟨b, 11, none⟩ = some c11 ∧ ∀ i, w.frozen? ⟨b, i, none⟩ = false := by
  simp only [World.cell?, World.frozen?, h]
  simp
theorem vec12 {w : World} {cs : Array Value} (h : Sh.ok w (.agg 12 [(0, 4, .agg 4 [(0, 1, .int .u32), (1, 1, .int .u32), (2, 1, .int .u32), (3, 1, .int .u32)]), (4, 4, .agg 4 [(0, 1, .int .u32), (1, 1, .int .u32), (2, 1, .int .u32), (3, 1, .int .u32)]), (8, 4, .agg 4 [(0, 1, .int .u32), (1, 1, .int .u32), (2, 1, .int .u32), (3, 1, .int .u32)])]) cs.toList) : ∃ v0 v1 v2 : Md.V, cs = #[.int .u32 v0.a, .int .u32 v0.b, .int .u32 v0.c, .int .u32 v0.d, .int .u32 v1.a, .int .u32 v1.b, .int .u32 v1.c, .int .u32 v1.d, .int .u32 v2.a, .int .u32 v2.b, .int .u32 v2.c, .int .u32 v2.d] := by
  obtain ⟨l⟩ := cs
  obtain ⟨hn, ho⟩ := h
  change l.length = 12 at hn
  simp only [Sh.oks] at ho
  obtain ⟨h0, h1, h2, _⟩ := ho
  obtain ⟨v0, e0⟩ := vec_of h0
  obtain ⟨v1, e1⟩ := vec_of h1
  obtain ⟨v2, e2⟩ := vec_of h2
  refine ⟨v0, v1, v2, ?_⟩
  have : l = (l.drop 0).take 4 ++ (l.drop 4).take 4 ++ (l.drop 8).take 4 := by
    match l, hn with
    | [x0, x1, x2, x3, x4, x5, x6, x7, x8, x9, x10, x11], _ => rfl
  have e0' : (l.drop 0).take 4 = _ := e0
  have e1' : (l.drop 4).take 4 = _ := e1
  have e2' : (l.drop 8).take 4 = _ := e2
  rw [e0', e1', e2'] at this
  rw [this]
  rfl
theorem may_calm (l m : List Md.V) : may (calm l) m = decide (m = l) := by unfold may; simp only [calm, Bool.false_and, Bool.or_false]; first | rfl | (congr)
theorem may_b {l m : List Md.V} {k : Nat} {v : Md.V} (hk : k < l.length) : may (Md.begun (calm l) k v) m = (decide (m = l) || decide (m = l.set k v)) := by
  have h : has (calm l) (k : Int) = true := has_nat (s := calm l) hk
  have h2 : Md.begun (calm l) k v = ⟨l, true, k, v⟩ := by unfold Md.begun; rw [if_pos h]; rfl
  have h3 : has (⟨l, true, k, v⟩ : St) (k : Int) = true := has_nat (s := ⟨l, true, k, v⟩) hk
  rw [h2]; unfold may; rw [h3]; simp
theorem set_ne {l : List Md.V} {k : Nat} {u v : Md.V} (hk : k < l.length) (h : ¬ u = v) : ¬ l.set k u = l.set k v := by
  intro e
  have := congrArg (fun m => m.getD k Md.V.z) e
  simp only [Md.getD_set, hk, and_self, if_true, and_true] at this
  exact h this
set_option maxHeartbeats 40000000 in
set_option maxRecDepth 100000 in
theorem ModelOne_c (cs0 : Array Value) (a1 : Int) (cs2 : Array Value) (w : World) (s0 : Sh.ok w (.agg 7 [(0, 1, .slice 4 (.agg 4 [(0, 1, .int .u32), (1, 1, .int .u32), (2, 1, .int .u32), (3, 1, .int .u32)])), (1, 1, .bool), (2, 1, .int .i64), (3, 4, .agg 4 [(0, 1, .int .u32), (1, 1, .int .u32), (2, 1, .int .u32), (3, 1, .int .u32)])]) cs0.toList) (w1 : (Lit.int .u8 a1).wf = true) (s2 : Sh.ok w (.agg 12 [(0, 4, .agg 4 [(0, 1, .int .u32), (1, 1, .int .u32), (2, 1, .int .u32), (3, 1, .int .u32)]), (4, 4, .agg 4 [(0, 1, .int .u32), (1, 1, .int .u32), (2, 1, .int .u32), (3, 1, .int .u32)]), (8, 4, .agg 4 [(0, 1, .int .u32), (1, 1, .int .u32), (2, 1, .int .u32), (3, 1, .int .u32)])]) cs2.toList) :
    Calls Try.prog 5 #[.agg cs0, .int .u8 a1, .agg cs2] w fun e w' => e = .returned (.bool true) ∧ Below w.heap.size w w' := by
  have hlo : 0 ≤ a1 ∧ a1 ≤ 255 := by simpa [Lit.wf, IntKind.min, IntKind.max, IntKind.signed, IntKind.bits] using w1
  obtain ⟨lo, hi⟩ := hlo
  clear w1
  obtain ⟨a, n, cap, s, hcs, La⟩ := st_of s0
  obtain ⟨v0, v1, v2, rfl⟩ := vec12 s2
  clear s0 s2
  rw [hcs]
  clear hcs
  have hal := fun o1 o2 => Live9.alive_c ((w.alloc o1).alloc o2)
  have hmf := @makeFunc_run9 Try.prog
  have key : (60 < n) ∨ n = 0 ∨ (n ≤ 60 ∧ 0 < n) := by omega
  rcases key with k1 | rfl | ⟨k1, k2⟩
  · unfold stv
    have k1' : (60 : Int) < (n : Int) := by omega
    go_enter Try.func5, Try.ntmps5
    go_wp2_with (go_at_call 9; refine (hal _ _).mono ?_; rintro e w1 ⟨rfl, b5⟩; clear hal; obtain ⟨Es, Ev, b6⟩ := alloc2_then b5; clear b5; replace Es := Lib.hid Es; replace Ev := Lib.hid Ev; have B := b6; obtain ⟨x0, x1, x2, x3, x4, x5, x6, xf⟩ := cells7 Es.out; have Xx0 := fun o => Lib.cell?_alloc_some o x0; have Xx1 := fun o => Lib.cell?_alloc_some o x1; have Xx2 := fun o => Lib.cell?_alloc_some o x2; have Xx3 := fun o => Lib.cell?_alloc_some o x3; have Xx4 := fun o => Lib.cell?_alloc_some o x4; have Xx5 := fun o => Lib.cell?_alloc_some o x5; have Xx6 := fun o => Lib.cell?_alloc_some o x6; obtain ⟨y0, y1, y2, y3, y4, y5, y6, y7, y8, y9, y10, y11, yf⟩ := cells12 Ev.out; have Xy0 := fun o => Lib.cell?_alloc_some o y0; have Xy1 := fun o => Lib.cell?_alloc_some o y1; have Xy2 := fun o => Lib.cell?_alloc_some o y2; have Xy3 := fun o => Lib.cell?_alloc_some o y3; have Xy4 := fun o => Lib.cell?_alloc_some o y4; have Xy5 := fun o => Lib.cell?_alloc_some o y5; have Xy6 := fun o => Lib.cell?_alloc_some o y6; have Xy7 := fun o => Lib.cell?_alloc_some o y7; have Xy8 := fun o => Lib.cell?_alloc_some o y8; have Xy9 := fun o => Lib.cell?_alloc_some o y9; have Xy10 := fun o => Lib.cell?_alloc_some o y10; have Xy11 := fun o => Lib.cell?_alloc_some o y11; clear b6)
    go_ret
    exact ⟨rfl, B⟩
  · unfold stv
    go_enter Try.func5, Try.ntmps5
    go_wp2_with (go_at_call 9; refine (hal _ _).mono ?_; rintro e w1 ⟨rfl, b5⟩; clear hal; obtain ⟨Es, Ev, b6⟩ := alloc2_then b5; clear b5; replace Es := Lib.hid Es; replace Ev := Lib.hid Ev; have B := b6; obtain ⟨x0, x1, x2, x3, x4, x5, x6, xf⟩ := cells7 Es.out; have Xx0 := fun o => Lib.cell?_alloc_some o x0; have Xx1 := fun o => Lib.cell?_alloc_some o x1; have Xx2 := fun o => Lib.cell?_alloc_some o x2; have Xx3 := fun o => Lib.cell?_alloc_some o x3; have Xx4 := fun o => Lib.cell?_alloc_some o x4; have Xx5 := fun o => Lib.cell?_alloc_some o x5; have Xx6 := fun o => Lib.cell?_alloc_some o x6; obtain ⟨y0, y1, y2, y3, y4, y5, y6, y7, y8, y9, y10, y11, yf⟩ := cells12 Ev.out; have Xy0 := fun o => Lib.cell?_alloc_some o y0; have Xy1 := fun o => Lib.cell?_alloc_some o y1; have Xy2 := fun o => Lib.cell?_alloc_some o y2; have Xy3 := fun o => Lib.cell?_alloc_some o y3; have Xy4 := fun o => Lib.cell?_alloc_some o y4; have Xy5 := fun o => Lib.cell?_alloc_some o y5; have Xy6 := fun o => Lib.cell?_alloc_some o y6; have Xy7 := fun o => Lib.cell?_alloc_some o y7; have Xy8 := fun o => Lib.cell?_alloc_some o y8; have Xy9 := fun o => Lib.cell?_alloc_some o y9; have Xy10 := fun o => Lib.cell?_alloc_some o y10; have Xy11 := fun o => Lib.cell?_alloc_some o y11; clear b6)
    go_ret
    exact ⟨rfl, B⟩
  · have k1' : (n : Int) ≤ 60 := by omega
    have k2' : ((n : Int) == 0) = false := by rw [beq_eq_false_iff_ne]; omega
    have k3' : ¬ (n : Int) = 0 := by omega
    obtain ⟨k, ek⟩ : ∃ k : Nat, a1 % (n : Int) = k := ⟨(a1 % (n : Int)).toNat, by have := Int.emod_nonneg a1 k3'; omega⟩
    have hk : k < n := by have := Int.emod_lt_of_pos a1 (show (0 : Int) < n by omega); omega
    have ek2 : Int.tmod a1 (n : Int) = k := by rw [Int.tmod_eq_emod_of_nonneg lo]; exact ek
    have hsl := La.len
    replace La : Stands w a n cap s := ⟨by omega, La⟩
    obtain ⟨ld, HL⟩ : ∃ z, Hid (s.sure.set k v0 = z) := ⟨_, rfl⟩
    have hdl : Hid (ld.length = n) := by show _ = _; rw [← HL.out, List.length_set]; exact hsl
    have HD : Hid (Md.done s k v0 = calm ld) := by show _ = _; unfold Md.done; rw [if_pos (has_nat (by omega)), Int.toNat_natCast, HL.out]
    have g0 : ld.set k v0 = ld := by rw [← HL.out]; simp
    obtain ⟨sb, HB⟩ : ∃ z, Hid (Md.begun (calm ld) k v1 = z) := ⟨_, rfl⟩
    have hsb : Hid (sb = ⟨ld, true, k, v1⟩) := by show _ = _; rw [← HB.out]; unfold Md.begun; rw [if_pos (has_nat (s := calm ld) (by have := hdl.out; show k < ld.length; omega))]; rfl
    have hkd : k < ld.length := by have := hdl.out; omega
    have q0 : Hid (may (calm ld) (ld.set k v0) = true) := by show _ = _; rw [may_calm, g0]; simp
    have q1 : Hid (may sb (ld.set k v0) = true) := by show _ = _; rw [← HB.out, may_b hkd, g0]; simp
    have q2 : Hid (may sb (ld.set k v1) = true) := by show _ = _; rw [← HB.out, may_b hkd]; simp
    obtain ⟨l0, e0⟩ : ∃ z, ld.set k v0 = z := ⟨_, rfl⟩
    obtain ⟨l1, e1⟩ : ∃ z, ld.set k v1 = z := ⟨_, rfl⟩
    obtain ⟨l2, e2⟩ : ∃ z, ld.set k v2 = z := ⟨_, rfl⟩
    rw [e0] at q0 q1
    rw [e1] at q2
    have t0 := fun W W' (u : Below W.heap.size W W') a c (p : Stands W a n c (calm ld)) g1 g2 (c1 : W.cell? ⟨g1, 0, none⟩ = some (.slice a n c)) (c2 : W.cell? ⟨g2, 0, none⟩ = some (.int .i64 k)) => One9.with_c (l := ld) (p.2.below u) p.1 hk v0 ((u.cell (World.block_lt_of_cell? W _ c1)).trans c1) ((u.cell (World.block_lt_of_cell? W _ c2)).trans c2)
    rw [e0] at t0
    have t1 := fun W W' (u : Below W.heap.size W W') a c (p : Stands W a n c (calm ld)) g1 g2 (c1 : W.cell? ⟨g1, 0, none⟩ = some (.slice a n c)) (c2 : W.cell? ⟨g2, 0, none⟩ = some (.int .i64 k)) => One9.with_c (l := ld) (p.2.below u) p.1 hk v1 ((u.cell (World.block_lt_of_cell? W _ c1)).trans c1) ((u.cell (World.block_lt_of_cell? W _ c2)).trans c2)
    rw [e1] at t1
    have t2 := fun W W' (u : Below W.heap.size W W') a c (p : Stands W a n c (calm ld)) g1 g2 (c1 : W.cell? ⟨g1, 0, none⟩ = some (.slice a n c)) (c2 : W.cell? ⟨g2, 0, none⟩ = some (.int .i64 k)) => One9.with_c (l := ld) (p.2.below u) p.1 hk v2 ((u.cell (World.block_lt_of_cell? W _ c1)).trans c1) ((u.cell (World.block_lt_of_cell? W _ c2)).trans c2)
    rw [e2] at t2
    have h3 := fun W (p : Stands W a n cap s) => Any9.done_m p HD
    have h5 := fun W a c (p : Stands W a n c (calm ld)) => Any9.begun_m p HB
    have h6 := fun W W' (u : Below W.heap.size W W') a c b kap (p : Stands W a n c (calm ld)) (r : Lv W b n kap l0) => Any9.may_m (p.below u) (r.below u) (by omega) q0
    have h7 := fun W W' (u : Below W.heap.size W W') a c b kap (p : Stands W a n c (calm ld)) (r : Lv W b n kap l0) => Any9.may_m (s := sb) ⟨p.1, by rw [hsb.out]; exact p.2.below u⟩ (r.below u) (by omega) q1
    have h8 := fun W W' (u : Below W.heap.size W W') a c b kap (p : Stands W a n c (calm ld)) (r : Lv W b n kap l1) => Any9.may_m (s := sb) ⟨p.1, by rw [hsb.out]; exact p.2.below u⟩ (r.below u) (by omega) q2
    have Hs : Hid ((ld.set k v0 = l0) ∧ (ld.set k v1 = l1) ∧ (ld.set k v2 = l2)) := ⟨e0, e1, e2⟩
    have G0 : Hid (ld.set k v0 = ld) := g0
    clear ek hsl g0 e0 e1 e2
    by_cases x1 : v2 = v0
    · subst x1
      clear t2
      unfold stv vv at *
      go_enter Try.func5, Try.ntmps5
      go_wp2_with (first | (go_at_call 9; refine (hal _ _).mono ?_; rintro e w1 ⟨rfl, b5⟩; clear hal; obtain ⟨Es, Ev, b6⟩ := alloc2_then b5; clear b5; replace Es := Lib.hid Es; replace Ev := Lib.hid Ev; replace La := La.below b6; have B := b6; obtain ⟨x0, x1, x2, x3, x4, x5, x6, xf⟩ := cells7 Es.out; have Xx0 := fun o => Lib.cell?_alloc_some o x0; have Xx1 := fun o => Lib.cell?_alloc_some o x1; have Xx2 := fun o => Lib.cell?_alloc_some o x2; have Xx3 := fun o => Lib.cell?_alloc_some o x3; have Xx4 := fun o => Lib.cell?_alloc_some o x4; have Xx5 := fun o => Lib.cell?_alloc_some o x5; have Xx6 := fun o => Lib.cell?_alloc_some o x6; obtain ⟨y0, y1, y2, y3, y4, y5, y6, y7, y8, y9, y10, y11, yf⟩ := cells12 Ev.out; have Xy0 := fun o => Lib.cell?_alloc_some o y0; have Xy1 := fun o => Lib.cell?_alloc_some o y1; have Xy2 := fun o => Lib.cell?_alloc_some o y2; have Xy3 := fun o => Lib.cell?_alloc_some o y3; have Xy4 := fun o => Lib.cell?_alloc_some o y4; have Xy5 := fun o => Lib.cell?_alloc_some o y5; have Xy6 := fun o => Lib.cell?_alloc_some o y6; have Xy7 := fun o => Lib.cell?_alloc_some o y7; have Xy8 := fun o => Lib.cell?_alloc_some o y8; have Xy9 := fun o => Lib.cell?_alloc_some o y9; have Xy10 := fun o => Lib.cell?_alloc_some o y10; have Xy11 := fun o => Lib.cell?_alloc_some o y11; clear b6) | (go_at_call 13; refine (h3 _ (La.below (alloc1_below _ _))).mono ?_; rintro e w2 ⟨a5, n5, c5, rfl, Ld, b5⟩; clear h3 La; obtain rfl : n = n5 := (Ld.2.len.symm.trans hdl.out).symm; obtain ⟨Ek, b6⟩ := alloc1_then b5; clear b5; replace Ek := Lib.hid Ek; replace Ev := Lib.hid ((b6.block _ (Array.getElem?_eq_some_iff.1 Ev.out).1).trans Ev.out); replace B := Below.then B b6; clear x0 x1 x2 x3 x4 x5 x6 xf Xx0 Xx1 Xx2 Xx3 Xx4 Xx5 Xx6 y0 y1 y2 y3 y4 y5 y6 y7 y8 y9 y10 y11 yf Xy0 Xy1 Xy2 Xy3 Xy4 Xy5 Xy6 Xy7 Xy8 Xy9 Xy10 Xy11; obtain ⟨y0, y1, y2, y3, y4, y5, y6, y7, y8, y9, y10, y11, yf⟩ := cells12 Ev.out; have Xy0 := fun o => Lib.cell?_alloc_some o y0; have Xy1 := fun o => Lib.cell?_alloc_some o y1; have Xy2 := fun o => Lib.cell?_alloc_some o y2; have Xy3 := fun o => Lib.cell?_alloc_some o y3; have Xy4 := fun o => Lib.cell?_alloc_some o y4; have Xy5 := fun o => Lib.cell?_alloc_some o y5; have Xy6 := fun o => Lib.cell?_alloc_some o y6; have Xy7 := fun o => Lib.cell?_alloc_some o y7; have Xy8 := fun o => Lib.cell?_alloc_some o y8; have Xy9 := fun o => Lib.cell?_alloc_some o y9; have Xy10 := fun o => Lib.cell?_alloc_some o y10; have Xy11 := fun o => Lib.cell?_alloc_some o y11; obtain ⟨q0, qf⟩ := cells1 Ek.out; have Xq0 := fun o => Lib.cell?_alloc_some o q0; clear b6 Es) | (go_at_call 15; refine (h5 _ _ _ (Ld.below (alloc1_below _ _))).mono ?_; rintro e w3 ⟨rfl, _, b5⟩; clear h5; obtain ⟨Ed, b6⟩ := alloc1_then b5; clear b5; replace Ed := Lib.hid Ed; replace Ev := Lib.hid ((b6.block _ (Array.getElem?_eq_some_iff.1 Ev.out).1).trans Ev.out); replace Ek := Lib.hid ((b6.block _ (Array.getElem?_eq_some_iff.1 Ek.out).1).trans Ek.out); replace Ld := Ld.below b6; replace B := Below.then B b6; clear y0 y1 y2 y3 y4 y5 y6 y7 y8 y9 y10 y11 yf Xy0 Xy1 Xy2 Xy3 Xy4 Xy5 Xy6 Xy7 Xy8 Xy9 Xy10 Xy11 q0 qf Xq0; obtain ⟨y0, y1, y2, y3, y4, y5, y6, y7, y8, y9, y10, y11, yf⟩ := cells12 Ev.out; have Xy0 := fun o => Lib.cell?_alloc_some o y0; have Xy1 := fun o => Lib.cell?_alloc_some o y1; have Xy2 := fun o => Lib.cell?_alloc_some o y2; have Xy3 := fun o => Lib.cell?_alloc_some o y3; have Xy4 := fun o => Lib.cell?_alloc_some o y4; have Xy5 := fun o => Lib.cell?_alloc_some o y5; have Xy6 := fun o => Lib.cell?_alloc_some o y6; have Xy7 := fun o => Lib.cell?_alloc_some o y7; have Xy8 := fun o => Lib.cell?_alloc_some o y8; have Xy9 := fun o => Lib.cell?_alloc_some o y9; have Xy10 := fun o => Lib.cell?_alloc_some o y10; have Xy11 := fun o => Lib.cell?_alloc_some o y11; obtain ⟨q0, qf⟩ := cells1 Ek.out; have Xq0 := fun o => Lib.cell?_alloc_some o q0; obtain ⟨z0, z1, z2, z3, z4, z5, z6, zf⟩ := cells7 Ed.out; have Xz0 := fun o => Lib.cell?_alloc_some o z0; have Xz1 := fun o => Lib.cell?_alloc_some o z1; have Xz2 := fun o => Lib.cell?_alloc_some o z2; have Xz3 := fun o => Lib.cell?_alloc_some o z3; have Xz4 := fun o => Lib.cell?_alloc_some o z4; have Xz5 := fun o => Lib.cell?_alloc_some o z5; have Xz6 := fun o => Lib.cell?_alloc_some o z6; clear b6))
      have b6 := alloc1_below w3 (.cells #[.slice a5 n c5, .bool sb.going, .int .i64 sb.at_, .int .u32 sb.next.a, .int .u32 sb.next.b, .int .u32 sb.next.c, .int .u32 sb.next.d] 28)
      have Eb := Lib.hid (heap_alloc_new w3 (.cells #[.slice a5 n c5, .bool sb.going, .int .i64 sb.at_, .int .u32 sb.next.a, .int .u32 sb.next.b, .int .u32 sb.next.c, .int .u32 sb.next.d] 28))
      generalize w3.alloc (.cells #[.slice a5 n c5, .bool sb.going, .int .i64 sb.at_, .int .u32 sb.next.a, .int .u32 sb.next.b, .int .u32 sb.next.c, .int .u32 sb.next.d] 28) = wB at *
      replace Ev := Lib.hid ((b6.block _ (Array.getElem?_eq_some_iff.1 Ev.out).1).trans Ev.out); replace Ek := Lib.hid ((b6.block _ (Array.getElem?_eq_some_iff.1 Ek.out).1).trans Ek.out); replace Ed := Lib.hid ((b6.block _ (Array.getElem?_eq_some_iff.1 Ed.out).1).trans Ed.out); replace Ld := Ld.below b6; replace B := Below.then B b6; clear y0 y1 y2 y3 y4 y5 y6 y7 y8 y9 y10 y11 yf Xy0 Xy1 Xy2 Xy3 Xy4 Xy5 Xy6 Xy7 Xy8 Xy9 Xy10 Xy11 q0 qf Xq0 z0 z1 z2 z3 z4 z5 z6 zf Xz0 Xz1 Xz2 Xz3 Xz4 Xz5 Xz6; 
      obtain ⟨y0, y1, y2, y3, y4, y5, y6, y7, y8, y9, y10, y11, yf⟩ := cells12 Ev.out; have Xy0 := fun o => Lib.cell?_alloc_some o y0; have Xy1 := fun o => Lib.cell?_alloc_some o y1; have Xy2 := fun o => Lib.cell?_alloc_some o y2; have Xy3 := fun o => Lib.cell?_alloc_some o y3; have Xy4 := fun o => Lib.cell?_alloc_some o y4; have Xy5 := fun o => Lib.cell?_alloc_some o y5; have Xy6 := fun o => Lib.cell?_alloc_some o y6; have Xy7 := fun o => Lib.cell?_alloc_some o y7; have Xy8 := fun o => Lib.cell?_alloc_some o y8; have Xy9 := fun o => Lib.cell?_alloc_some o y9; have Xy10 := fun o => Lib.cell?_alloc_some o y10; have Xy11 := fun o => Lib.cell?_alloc_some o y11; obtain ⟨q0, qf⟩ := cells1 Ek.out; have Xq0 := fun o => Lib.cell?_alloc_some o q0; obtain ⟨z0, z1, z2, z3, z4, z5, z6, zf⟩ := cells7 Ed.out; have Xz0 := fun o => Lib.cell?_alloc_some o z0; have Xz1 := fun o => Lib.cell?_alloc_some o z1; have Xz2 := fun o => Lib.cell?_alloc_some o z2; have Xz3 := fun o => Lib.cell?_alloc_some o z3; have Xz4 := fun o => Lib.cell?_alloc_some o z4; have Xz5 := fun o => Lib.cell?_alloc_some o z5; have Xz6 := fun o => Lib.cell?_alloc_some o z6; obtain ⟨r0, r1, r2, r3, r4, r5, r6, rf⟩ := cells7 Eb.out; have Xr0 := fun o => Lib.cell?_alloc_some o r0; have Xr1 := fun o => Lib.cell?_alloc_some o r1; have Xr2 := fun o => Lib.cell?_alloc_some o r2; have Xr3 := fun o => Lib.cell?_alloc_some o r3; have Xr4 := fun o => Lib.cell?_alloc_some o r4; have Xr5 := fun o => Lib.cell?_alloc_some o r5; have Xr6 := fun o => Lib.cell?_alloc_some o r6
      clear b6
      refine wp_region_held_drew (S := (fun W => W.cell? ⟨w.heap.size + 1, 0, none⟩ = some (.int .u32 v2.a) ∧ W.cell? ⟨w.heap.size + 1, 1, none⟩ = some (.int .u32 v2.b) ∧ W.cell? ⟨w.heap.size + 1, 2, none⟩ = some (.int .u32 v2.c) ∧ W.cell? ⟨w.heap.size + 1, 3, none⟩ = some (.int .u32 v2.d) ∧ W.cell? ⟨w.heap.size + 1, 4, none⟩ = some (.int .u32 v1.a) ∧ W.cell? ⟨w.heap.size + 1, 5, none⟩ = some (.int .u32 v1.b) ∧ W.cell? ⟨w.heap.size + 1, 6, none⟩ = some (.int .u32 v1.c) ∧ W.cell? ⟨w.heap.size + 1, 7, none⟩ = some (.int .u32 v1.d) ∧ W.cell? ⟨w.heap.size + 1, 8, none⟩ = some (.int .u32 v2.a) ∧ W.cell? ⟨w.heap.size + 1, 9, none⟩ = some (.int .u32 v2.b) ∧ W.cell? ⟨w.heap.size + 1, 10, none⟩ = some (.int .u32 v2.c) ∧ W.cell? ⟨w.heap.size + 1, 11, none⟩ = some (.int .u32 v2.d) ∧ W.cell? ⟨w1.heap.size, 0, none⟩ = some (.int .i64 k) ∧ W.cell? ⟨w2.heap.size, 0, none⟩ = some (.slice a5 n c5) ∧ W.cell? ⟨w2.heap.size, 1, none⟩ = some (.bool (calm ld).going) ∧ W.cell? ⟨w2.heap.size, 2, none⟩ = some (.int .i64 (calm ld).at_) ∧ W.cell? ⟨w2.heap.size, 3, none⟩ = some (.int .u32 (calm ld).next.a) ∧ W.cell? ⟨w2.heap.size, 4, none⟩ = some (.int .u32 (calm ld).next.b) ∧ W.cell? ⟨w2.heap.size, 5, none⟩ = some (.int .u32 (calm ld).next.c) ∧ W.cell? ⟨w2.heap.size, 6, none⟩ = some (.int .u32 (calm ld).next.d) ∧ W.cell? ⟨w3.heap.size, 0, none⟩ = some (.slice a5 n c5) ∧ W.cell? ⟨w3.heap.size, 1, none⟩ = some (.bool sb.going) ∧ W.cell? ⟨w3.heap.size, 2, none⟩ = some (.int .i64 sb.at_) ∧ W.cell? ⟨w3.heap.size, 3, none⟩ = some (.int .u32 sb.next.a) ∧ W.cell? ⟨w3.heap.size, 4, none⟩ = some (.int .u32 sb.next.b) ∧ W.cell? ⟨w3.heap.size, 5, none⟩ = some (.int .u32 sb.next.c) ∧ W.cell? ⟨w3.heap.size, 6, none⟩ = some (.int .u32 sb.next.d))) (by kernel_rfl) ?_ (fun hHeld => ?_)
      · exact ⟨y0, y1, y2, y3, y4, y5, y6, y7, y8, y9, y10, y11, q0, z0, z1, z2, z3, z4, z5, z6, r0, r1, r2, r3, r4, r5, r6⟩
      refine wpAnyH_take (i := 0) (v := ?_) rfl (by kernel_rfl) (by kernel_rfl) (by kernel_rfl) (fun _ _ _ h => h) (Or.inl ⟨by kernel_rfl, ?_⟩) (by assumption) ?_
      rotate_left
      · ((intro w hSw; (try dsimp only at hSw); go_simp) <;> with_reducible rfl)
      (try simp only [Act.put, List.setIfInBounds_toArray, List.set_cons_zero, List.set_cons_succ])
      refine wpAnyH_take (i := 1) (v := ?_) rfl (by kernel_rfl) (by kernel_rfl) (by kernel_rfl) (fun _ _ _ h => h) (Or.inl ⟨by kernel_rfl, ?_⟩) (by assumption) ?_
      rotate_left
      · ((intro w hSw; (try dsimp only at hSw); go_simp) <;> with_reducible rfl)
      (try simp only [Act.put, List.setIfInBounds_toArray, List.set_cons_zero, List.set_cons_succ])
      refine wpAnyH_take (i := 2) (v := ?_) rfl (by kernel_rfl) (by kernel_rfl) (by kernel_rfl) (fun _ _ _ h => h) (Or.inl ⟨by kernel_rfl, ?_⟩) (by assumption) ?_
      rotate_left
      · ((intro w hSw; (try dsimp only at hSw); go_simp) <;> with_reducible rfl)
      (try simp only [Act.put, List.setIfInBounds_toArray, List.set_cons_zero, List.set_cons_succ])
      refine wpAnyH_take (i := 3) (v := ?_) rfl (by kernel_rfl) (by kernel_rfl) (by kernel_rfl) (fun _ _ _ h => h) (Or.inl ⟨by kernel_rfl, ?_⟩) (by assumption) ?_
      rotate_left
      · ((intro w hSw; (try dsimp only at hSw); go_simp) <;> with_reducible rfl)
      (try simp only [Act.put, List.setIfInBounds_toArray, List.set_cons_zero, List.set_cons_succ])
      refine wpAnyH_ready (rs := [4]) (by kernel_rfl) (by simp) ?_
      refine AllReadyH.cons rfl (fun K hK => ?_) ?_
      rotate_left
      exact AllReadyH.nil
      go_simp
      (go_at_call 21; refine (t0 _ _ (by first | exact Below.refl _ _ | exact below_drew _) _ _ Ld _ _ z0 q0).mono ?_; rintro e w5 ⟨a6, c6, rfl, Ll, b6⟩; (try replace b6 := undrew b6); replace Ev := Lib.hid ((b6.block _ (Array.getElem?_eq_some_iff.1 Ev.out).1).trans Ev.out); replace Ek := Lib.hid ((b6.block _ (Array.getElem?_eq_some_iff.1 Ek.out).1).trans Ek.out); replace Ed := Lib.hid ((b6.block _ (Array.getElem?_eq_some_iff.1 Ed.out).1).trans Ed.out); replace Eb := Lib.hid ((b6.block _ (Array.getElem?_eq_some_iff.1 Eb.out).1).trans Eb.out); (try replace Ld := Ld.below b6); replace B := Below.then B b6; clear y0 y1 y2 y3 y4 y5 y6 y7 y8 y9 y10 y11 yf Xy0 Xy1 Xy2 Xy3 Xy4 Xy5 Xy6 Xy7 Xy8 Xy9 Xy10 Xy11 q0 qf Xq0 z0 z1 z2 z3 z4 z5 z6 zf Xz0 Xz1 Xz2 Xz3 Xz4 Xz5 Xz6 r0 r1 r2 r3 r4 r5 r6 rf Xr0 Xr1 Xr2 Xr3 Xr4 Xr5 Xr6; obtain ⟨y0, y1, y2, y3, y4, y5, y6, y7, y8, y9, y10, y11, yf⟩ := cells12 Ev.out; have Xy0 := fun o => Lib.cell?_alloc_some o y0; have Xy1 := fun o => Lib.cell?_alloc_some o y1; have Xy2 := fun o => Lib.cell?_alloc_some o y2; have Xy3 := fun o => Lib.cell?_alloc_some o y3; have Xy4 := fun o => Lib.cell?_alloc_some o y4; have Xy5 := fun o => Lib.cell?_alloc_some o y5; have Xy6 := fun o => Lib.cell?_alloc_some o y6; have Xy7 := fun o => Lib.cell?_alloc_some o y7; have Xy8 := fun o => Lib.cell?_alloc_some o y8; have Xy9 := fun o => Lib.cell?_alloc_some o y9; have Xy10 := fun o => Lib.cell?_alloc_some o y10; have Xy11 := fun o => Lib.cell?_alloc_some o y11; obtain ⟨q0, qf⟩ := cells1 Ek.out; have Xq0 := fun o => Lib.cell?_alloc_some o q0; obtain ⟨z0, z1, z2, z3, z4, z5, z6, zf⟩ := cells7 Ed.out; have Xz0 := fun o => Lib.cell?_alloc_some o z0; have Xz1 := fun o => Lib.cell?_alloc_some o z1; have Xz2 := fun o => Lib.cell?_alloc_some o z2; have Xz3 := fun o => Lib.cell?_alloc_some o z3; have Xz4 := fun o => Lib.cell?_alloc_some o z4; have Xz5 := fun o => Lib.cell?_alloc_some o z5; have Xz6 := fun o => Lib.cell?_alloc_some o z6; obtain ⟨r0, r1, r2, r3, r4, r5, r6, rf⟩ := cells7 Eb.out; have Xr0 := fun o => Lib.cell?_alloc_some o r0; have Xr1 := fun o => Lib.cell?_alloc_some o r1; have Xr2 := fun o => Lib.cell?_alloc_some o r2; have Xr3 := fun o => Lib.cell?_alloc_some o r3; have Xr4 := fun o => Lib.cell?_alloc_some o r4; have Xr5 := fun o => Lib.cell?_alloc_some o r5; have Xr6 := fun o => Lib.cell?_alloc_some o r6; clear b6)
      clear hHeld
      refine hK.out _ _ ?_ (fun hHeld => ?_)
      · exact ⟨y0, y1, y2, y3, y4, y5, y6, y7, y8, y9, y10, y11, q0, z0, z1, z2, z3, z4, z5, z6, r0, r1, r2, r3, r4, r5, r6⟩
      clear hK K
      (try simp only [Act.put, List.setIfInBounds_toArray, List.set_cons_zero, List.set_cons_succ])
      refine wpAnyH_ready (rs := [5]) (by kernel_rfl) (by simp) ?_
      refine AllReadyH.cons rfl (fun K hK => ?_) ?_
      rotate_left
      exact AllReadyH.nil
      go_simp
      (go_at_call 17; refine (h6 _ _ (by first | exact Below.refl _ _ | exact below_drew _) _ _ _ _ Ld Ll).mono ?_; rintro e w6 ⟨rfl, b6⟩; (try replace b6 := undrew b6); clear h6 Ll; replace Ev := Lib.hid ((b6.block _ (Array.getElem?_eq_some_iff.1 Ev.out).1).trans Ev.out); replace Ek := Lib.hid ((b6.block _ (Array.getElem?_eq_some_iff.1 Ek.out).1).trans Ek.out); replace Ed := Lib.hid ((b6.block _ (Array.getElem?_eq_some_iff.1 Ed.out).1).trans Ed.out); replace Eb := Lib.hid ((b6.block _ (Array.getElem?_eq_some_iff.1 Eb.out).1).trans Eb.out); (try replace Ld := Ld.below b6); replace B := Below.then B b6; clear y0 y1 y2 y3 y4 y5 y6 y7 y8 y9 y10 y11 yf Xy0 Xy1 Xy2 Xy3 Xy4 Xy5 Xy6 Xy7 Xy8 Xy9 Xy10 Xy11 q0 qf Xq0 z0 z1 z2 z3 z4 z5 z6 zf Xz0 Xz1 Xz2 Xz3 Xz4 Xz5 Xz6 r0 r1 r2 r3 r4 r5 r6 rf Xr0 Xr1 Xr2 Xr3 Xr4 Xr5 Xr6; obtain ⟨y0, y1, y2, y3, y4, y5, y6, y7, y8, y9, y10, y11, yf⟩ := cells12 Ev.out; have Xy0 := fun o => Lib.cell?_alloc_some o y0; have Xy1 := fun o => Lib.cell?_alloc_some o y1; have Xy2 := fun o => Lib.cell?_alloc_some o y2; have Xy3 := fun o => Lib.cell?_alloc_some o y3; have Xy4 := fun o => Lib.cell?_alloc_some o y4; have Xy5 := fun o => Lib.cell?_alloc_some o y5; have Xy6 := fun o => Lib.cell?_alloc_some o y6; have Xy7 := fun o => Lib.cell?_alloc_some o y7; have Xy8 := fun o => Lib.cell?_alloc_some o y8; have Xy9 := fun o => Lib.cell?_alloc_some o y9; have Xy10 := fun o => Lib.cell?_alloc_some o y10; have Xy11 := fun o => Lib.cell?_alloc_some o y11; obtain ⟨q0, qf⟩ := cells1 Ek.out; have Xq0 := fun o => Lib.cell?_alloc_some o q0; obtain ⟨z0, z1, z2, z3, z4, z5, z6, zf⟩ := cells7 Ed.out; have Xz0 := fun o => Lib.cell?_alloc_some o z0; have Xz1 := fun o => Lib.cell?_alloc_some o z1; have Xz2 := fun o => Lib.cell?_alloc_some o z2; have Xz3 := fun o => Lib.cell?_alloc_some o z3; have Xz4 := fun o => Lib.cell?_alloc_some o z4; have Xz5 := fun o => Lib.cell?_alloc_some o z5; have Xz6 := fun o => Lib.cell?_alloc_some o z6; obtain ⟨r0, r1, r2, r3, r4, r5, r6, rf⟩ := cells7 Eb.out; have Xr0 := fun o => Lib.cell?_alloc_some o r0; have Xr1 := fun o => Lib.cell?_alloc_some o r1; have Xr2 := fun o => Lib.cell?_alloc_some o r2; have Xr3 := fun o => Lib.cell?_alloc_some o r3; have Xr4 := fun o => Lib.cell?_alloc_some o r4; have Xr5 := fun o => Lib.cell?_alloc_some o r5; have Xr6 := fun o => Lib.cell?_alloc_some o r6; clear b6)
      clear hHeld
      refine hK.out _ _ ?_ (fun hHeld => ?_)
      · exact ⟨y0, y1, y2, y3, y4, y5, y6, y7, y8, y9, y10, y11, q0, z0, z1, z2, z3, z4, z5, z6, r0, r1, r2, r3, r4, r5, r6⟩
      clear hK K
      (try simp only [Act.put, List.setIfInBounds_toArray, List.set_cons_zero, List.set_cons_succ])
      refine wpAnyH_take (i := 6) (v := ?_) rfl (by kernel_rfl) (by kernel_rfl) (by kernel_rfl) (fun _ _ _ h => h) (Or.inl ⟨by kernel_rfl, ?_⟩) (by assumption) ?_
      rotate_left
      · ((intro w hSw; (try dsimp only at hSw); go_simp) <;> with_reducible rfl)
      (try simp only [Act.put, List.setIfInBounds_toArray, List.set_cons_zero, List.set_cons_succ])
      refine wpAnyH_take (i := 7) (v := ?_) rfl (by kernel_rfl) (by kernel_rfl) (by kernel_rfl) (fun _ _ _ h => h) (Or.inl ⟨by kernel_rfl, ?_⟩) (by assumption) ?_
      rotate_left
      · ((intro w hSw; (try dsimp only at hSw); go_simp) <;> with_reducible rfl)
      (try simp only [Act.put, List.setIfInBounds_toArray, List.set_cons_zero, List.set_cons_succ])
      refine wpAnyH_take (i := 8) (v := ?_) rfl (by kernel_rfl) (by kernel_rfl) (by kernel_rfl) (fun _ _ _ h => h) (Or.inl ⟨by kernel_rfl, ?_⟩) (by assumption) ?_
      rotate_left
      · ((intro w hSw; (try dsimp only at hSw); go_simp) <;> with_reducible rfl)
      (try simp only [Act.put, List.setIfInBounds_toArray, List.set_cons_zero, List.set_cons_succ])
      refine wpAnyH_take (i := 9) (v := ?_) rfl (by kernel_rfl) (by kernel_rfl) (by kernel_rfl) (fun _ _ _ h => h) (Or.inl ⟨by kernel_rfl, ?_⟩) (by assumption) ?_
      rotate_left
      · ((intro w hSw; (try dsimp only at hSw); go_simp) <;> with_reducible rfl)
      (try simp only [Act.put, List.setIfInBounds_toArray, List.set_cons_zero, List.set_cons_succ])
      refine wpAnyH_take (i := 10) (v := ?_) rfl (by kernel_rfl) (by kernel_rfl) (by kernel_rfl) (fun _ _ _ h => h) (Or.inl ⟨by kernel_rfl, ?_⟩) (by assumption) ?_
      rotate_left
      · ((intro w hSw; (try dsimp only at hSw); go_simp) <;> with_reducible rfl)
      (try simp only [Act.put, List.setIfInBounds_toArray, List.set_cons_zero, List.set_cons_succ])
      refine wpAnyH_take (i := 11) (v := ?_) rfl (by kernel_rfl) (by kernel_rfl) (by kernel_rfl) (fun _ _ _ h => h) (Or.inl ⟨by kernel_rfl, ?_⟩) (by assumption) ?_
      rotate_left
      · ((intro w hSw; (try dsimp only at hSw); go_simp) <;> with_reducible rfl)
      (try simp only [Act.put, List.setIfInBounds_toArray, List.set_cons_zero, List.set_cons_succ])
      refine wpAnyH_take (i := 12) (v := ?_) rfl (by kernel_rfl) (by kernel_rfl) (by kernel_rfl) (fun _ _ _ h => h) (Or.inl ⟨by kernel_rfl, ?_⟩) (by assumption) ?_
      rotate_left
      · ((intro w hSw; (try dsimp only at hSw); go_simp) <;> with_reducible rfl)
      (try simp only [Act.put, List.setIfInBounds_toArray, List.set_cons_zero, List.set_cons_succ])
      refine wpAnyH_take (i := 13) (v := undef) rfl (by kernel_rfl) (by kernel_rfl) (by kernel_rfl) (fun _ _ _ h => h) (Or.inr ⟨by kernel_rfl, rfl⟩) (by assumption) ?_
      (try simp only [Act.put, List.setIfInBounds_toArray, List.set_cons_zero, List.set_cons_succ])
      refine wpAnyH_take (i := 14) (v := undef) rfl (by kernel_rfl) (by kernel_rfl) (by kernel_rfl) (fun _ _ _ h => h) (Or.inr ⟨by kernel_rfl, rfl⟩) (by assumption) ?_
      (try simp only [Act.put, List.setIfInBounds_toArray, List.set_cons_zero, List.set_cons_succ])
      refine wpAnyH_take (i := 15) (v := undef) rfl (by kernel_rfl) (by kernel_rfl) (by kernel_rfl) (fun _ _ _ h => h) (Or.inr ⟨by kernel_rfl, rfl⟩) (by assumption) ?_
      (try simp only [Act.put, List.setIfInBounds_toArray, List.set_cons_zero, List.set_cons_succ])
      refine wpAnyH_take (i := 16) (v := undef) rfl (by kernel_rfl) (by kernel_rfl) (by kernel_rfl) (fun _ _ _ h => h) (Or.inr ⟨by kernel_rfl, rfl⟩) (by assumption) ?_
      (try simp only [Act.put, List.setIfInBounds_toArray, List.set_cons_zero, List.set_cons_succ])
      refine wpAnyH_take (i := 17) (v := undef) rfl (by kernel_rfl) (by kernel_rfl) (by kernel_rfl) (fun _ _ _ h => h) (Or.inr ⟨by kernel_rfl, rfl⟩) (by assumption) ?_
      (try simp only [Act.put, List.setIfInBounds_toArray, List.set_cons_zero, List.set_cons_succ])
      refine wpAnyH_take (i := 18) (v := undef) rfl (by kernel_rfl) (by kernel_rfl) (by kernel_rfl) (fun _ _ _ h => h) (Or.inr ⟨by kernel_rfl, rfl⟩) (by assumption) ?_
      (try simp only [Act.put, List.setIfInBounds_toArray, List.set_cons_zero, List.set_cons_succ])
      refine wpAnyH_take (i := 19) (v := undef) rfl (by kernel_rfl) (by kernel_rfl) (by kernel_rfl) (fun _ _ _ h => h) (Or.inr ⟨by kernel_rfl, rfl⟩) (by assumption) ?_
      (try simp only [Act.put, List.setIfInBounds_toArray, List.set_cons_zero, List.set_cons_succ])
      refine wpAnyH_take (i := 20) (v := ?_) rfl (by kernel_rfl) (by kernel_rfl) (by kernel_rfl) (fun _ _ _ h => h) (Or.inl ⟨by kernel_rfl, ?_⟩) (by assumption) ?_
      rotate_left
      · ((intro w hSw; (try dsimp only at hSw); go_simp) <;> with_reducible rfl)
      (try simp only [Act.put, List.setIfInBounds_toArray, List.set_cons_zero, List.set_cons_succ])
      refine wpAnyH_take (i := 21) (v := ?_) rfl (by kernel_rfl) (by kernel_rfl) (by kernel_rfl) (fun _ _ _ h => h) (Or.inl ⟨by kernel_rfl, ?_⟩) (by assumption) ?_
      rotate_left
      · ((intro w hSw; (try dsimp only at hSw); go_simp) <;> with_reducible rfl)
      (try simp only [Act.put, List.setIfInBounds_toArray, List.set_cons_zero, List.set_cons_succ])
      refine wpAnyH_take (i := 22) (v := ?_) rfl (by kernel_rfl) (by kernel_rfl) (by kernel_rfl) (fun _ _ _ h => h) (Or.inl ⟨by kernel_rfl, ?_⟩) (by assumption) ?_
      rotate_left
      · ((intro w hSw; (try dsimp only at hSw); go_simp) <;> with_reducible rfl)
      (try simp only [Act.put, List.setIfInBounds_toArray, List.set_cons_zero, List.set_cons_succ])
      refine wpAnyH_take (i := 23) (v := ?_) rfl (by kernel_rfl) (by kernel_rfl) (by kernel_rfl) (fun _ _ _ h => h) (Or.inl ⟨by kernel_rfl, ?_⟩) (by assumption) ?_
      rotate_left
      · ((intro w hSw; (try dsimp only at hSw); go_simp) <;> with_reducible rfl)
      (try simp only [Act.put, List.setIfInBounds_toArray, List.set_cons_zero, List.set_cons_succ])
      refine wpAnyH_take (i := 24) (v := ?_) rfl (by kernel_rfl) (by kernel_rfl) (by kernel_rfl) (fun _ _ _ h => h) (Or.inl ⟨by kernel_rfl, ?_⟩) (by assumption) ?_
      rotate_left
      · ((intro w hSw; (try dsimp only at hSw); go_simp) <;> with_reducible rfl)
      (try simp only [Act.put, List.setIfInBounds_toArray, List.set_cons_zero, List.set_cons_succ])
      refine wpAnyH_take (i := 25) (v := ?_) rfl (by kernel_rfl) (by kernel_rfl) (by kernel_rfl) (fun _ _ _ h => h) (Or.inl ⟨by kernel_rfl, ?_⟩) (by assumption) ?_
      rotate_left
      · ((intro w hSw; (try dsimp only at hSw); go_simp) <;> with_reducible rfl)
      (try simp only [Act.put, List.setIfInBounds_toArray, List.set_cons_zero, List.set_cons_succ])
      refine wpAnyH_take (i := 26) (v := ?_) rfl (by kernel_rfl) (by kernel_rfl) (by kernel_rfl) (fun _ _ _ h => h) (Or.inl ⟨by kernel_rfl, ?_⟩) (by assumption) ?_
      rotate_left
      · ((intro w hSw; (try dsimp only at hSw); go_simp) <;> with_reducible rfl)
      (try simp only [Act.put, List.setIfInBounds_toArray, List.set_cons_zero, List.set_cons_succ])
      refine wpAnyH_ready (rs := [27]) (by kernel_rfl) (by simp) ?_
      refine AllReadyH.cons rfl (fun K hK => ?_) ?_
      rotate_left
      exact AllReadyH.nil
      go_simp
      (go_at_call 21; refine (t0 _ _ (by first | exact Below.refl _ _ | exact below_drew _) _ _ Ld _ _ z0 q0).mono ?_; rintro e w5 ⟨a6, c6, rfl, Ll, b6⟩; (try replace b6 := undrew b6); replace Ev := Lib.hid ((b6.block _ (Array.getElem?_eq_some_iff.1 Ev.out).1).trans Ev.out); replace Ek := Lib.hid ((b6.block _ (Array.getElem?_eq_some_iff.1 Ek.out).1).trans Ek.out); replace Ed := Lib.hid ((b6.block _ (Array.getElem?_eq_some_iff.1 Ed.out).1).trans Ed.out); replace Eb := Lib.hid ((b6.block _ (Array.getElem?_eq_some_iff.1 Eb.out).1).trans Eb.out); (try replace Ld := Ld.below b6); replace B := Below.then B b6; clear y0 y1 y2 y3 y4 y5 y6 y7 y8 y9 y10 y11 yf Xy0 Xy1 Xy2 Xy3 Xy4 Xy5 Xy6 Xy7 Xy8 Xy9 Xy10 Xy11 q0 qf Xq0 z0 z1 z2 z3 z4 z5 z6 zf Xz0 Xz1 Xz2 Xz3 Xz4 Xz5 Xz6 r0 r1 r2 r3 r4 r5 r6 rf Xr0 Xr1 Xr2 Xr3 Xr4 Xr5 Xr6; obtain ⟨y0, y1, y2, y3, y4, y5, y6, y7, y8, y9, y10, y11, yf⟩ := cells12 Ev.out; have Xy0 := fun o => Lib.cell?_alloc_some o y0; have Xy1 := fun o => Lib.cell?_alloc_some o y1; have Xy2 := fun o => Lib.cell?_alloc_some o y2; have Xy3 := fun o => Lib.cell?_alloc_some o y3; have Xy4 := fun o => Lib.cell?_alloc_some o y4; have Xy5 := fun o => Lib.cell?_alloc_some o y5; have Xy6 := fun o => Lib.cell?_alloc_some o y6; have Xy7 := fun o => Lib.cell?_alloc_some o y7; have Xy8 := fun o => Lib.cell?_alloc_some o y8; have Xy9 := fun o => Lib.cell?_alloc_some o y9; have Xy10 := fun o => Lib.cell?_alloc_some o y10; have Xy11 := fun o => Lib.cell?_alloc_some o y11; obtain ⟨q0, qf⟩ := cells1 Ek.out; have Xq0 := fun o => Lib.cell?_alloc_some o q0; obtain ⟨z0, z1, z2, z3, z4, z5, z6, zf⟩ := cells7 Ed.out; have Xz0 := fun o => Lib.cell?_alloc_some o z0; have Xz1 := fun o => Lib.cell?_alloc_some o z1; have Xz2 := fun o => Lib.cell?_alloc_some o z2; have Xz3 := fun o => Lib.cell?_alloc_some o z3; have Xz4 := fun o => Lib.cell?_alloc_some o z4; have Xz5 := fun o => Lib.cell?_alloc_some o z5; have Xz6 := fun o => Lib.cell?_alloc_some o z6; obtain ⟨r0, r1, r2, r3, r4, r5, r6, rf⟩ := cells7 Eb.out; have Xr0 := fun o => Lib.cell?_alloc_some o r0; have Xr1 := fun o => Lib.cell?_alloc_some o r1; have Xr2 := fun o => Lib.cell?_alloc_some o r2; have Xr3 := fun o => Lib.cell?_alloc_some o r3; have Xr4 := fun o => Lib.cell?_alloc_some o r4; have Xr5 := fun o => Lib.cell?_alloc_some o r5; have Xr6 := fun o => Lib.cell?_alloc_some o r6; clear b6)
      clear hHeld
      refine hK.out _ _ ?_ (fun hHeld => ?_)
      · exact ⟨y0, y1, y2, y3, y4, y5, y6, y7, y8, y9, y10, y11, q0, z0, z1, z2, z3, z4, z5, z6, r0, r1, r2, r3, r4, r5, r6⟩
      clear hK K
      (try simp only [Act.put, List.setIfInBounds_toArray, List.set_cons_zero, List.set_cons_succ])
      refine wpAnyH_ready (rs := [28]) (by kernel_rfl) (by simp) ?_
      refine AllReadyH.cons rfl (fun K hK => ?_) ?_
      rotate_left
      exact AllReadyH.nil
      go_simp
      (go_at_call 17; refine (h7 _ _ (by first | exact Below.refl _ _ | exact below_drew _) _ _ _ _ Ld Ll).mono ?_; rintro e w6 ⟨rfl, b6⟩; (try replace b6 := undrew b6); clear h7 Ll; replace Ev := Lib.hid ((b6.block _ (Array.getElem?_eq_some_iff.1 Ev.out).1).trans Ev.out); replace Ek := Lib.hid ((b6.block _ (Array.getElem?_eq_some_iff.1 Ek.out).1).trans Ek.out); replace Ed := Lib.hid ((b6.block _ (Array.getElem?_eq_some_iff.1 Ed.out).1).trans Ed.out); replace Eb := Lib.hid ((b6.block _ (Array.getElem?_eq_some_iff.1 Eb.out).1).trans Eb.out); (try replace Ld := Ld.below b6); replace B := Below.then B b6; clear y0 y1 y2 y3 y4 y5 y6 y7 y8 y9 y10 y11 yf Xy0 Xy1 Xy2 Xy3 Xy4 Xy5 Xy6 Xy7 Xy8 Xy9 Xy10 Xy11 q0 qf Xq0 z0 z1 z2 z3 z4 z5 z6 zf Xz0 Xz1 Xz2 Xz3 Xz4 Xz5 Xz6 r0 r1 r2 r3 r4 r5 r6 rf Xr0 Xr1 Xr2 Xr3 Xr4 Xr5 Xr6; obtain ⟨y0, y1, y2, y3, y4, y5, y6, y7, y8, y9, y10, y11, yf⟩ := cells12 Ev.out; have Xy0 := fun o => Lib.cell?_alloc_some o y0; have Xy1 := fun o => Lib.cell?_alloc_some o y1; have Xy2 := fun o => Lib.cell?_alloc_some o y2; have Xy3 := fun o => Lib.cell?_alloc_some o y3; have Xy4 := fun o => Lib.cell?_alloc_some o y4; have Xy5 := fun o => Lib.cell?_alloc_some o y5; have Xy6 := fun o => Lib.cell?_alloc_some o y6; have Xy7 := fun o => Lib.cell?_alloc_some o y7; have Xy8 := fun o => Lib.cell?_alloc_some o y8; have Xy9 := fun o => Lib.cell?_alloc_some o y9; have Xy10 := fun o => Lib.cell?_alloc_some o y10; have Xy11 := fun o => Lib.cell?_alloc_some o y11; obtain ⟨q0, qf⟩ := cells1 Ek.out; have Xq0 := fun o => Lib.cell?_alloc_some o q0; obtain ⟨z0, z1, z2, z3, z4, z5, z6, zf⟩ := cells7 Ed.out; have Xz0 := fun o => Lib.cell?_alloc_some o z0; have Xz1 := fun o => Lib.cell?_alloc_some o z1; have Xz2 := fun o => Lib.cell?_alloc_some o z2; have Xz3 := fun o => Lib.cell?_alloc_some o z3; have Xz4 := fun o => Lib.cell?_alloc_some o z4; have Xz5 := fun o => Lib.cell?_alloc_some o z5; have Xz6 := fun o => Lib.cell?_alloc_some o z6; obtain ⟨r0, r1, r2, r3, r4, r5, r6, rf⟩ := cells7 Eb.out; have Xr0 := fun o => Lib.cell?_alloc_some o r0; have Xr1 := fun o => Lib.cell?_alloc_some o r1; have Xr2 := fun o => Lib.cell?_alloc_some o r2; have Xr3 := fun o => Lib.cell?_alloc_some o r3; have Xr4 := fun o => Lib.cell?_alloc_some o r4; have Xr5 := fun o => Lib.cell?_alloc_some o r5; have Xr6 := fun o => Lib.cell?_alloc_some o r6; clear b6)
      clear hHeld
      refine hK.out _ _ ?_ (fun hHeld => ?_)
      · exact ⟨y0, y1, y2, y3, y4, y5, y6, y7, y8, y9, y10, y11, q0, z0, z1, z2, z3, z4, z5, z6, r0, r1, r2, r3, r4, r5, r6⟩
      clear hK K
      (try simp only [Act.put, List.setIfInBounds_toArray, List.set_cons_zero, List.set_cons_succ])
      refine wpAnyH_take (i := 29) (v := ?_) rfl (by kernel_rfl) (by kernel_rfl) (by kernel_rfl) (fun _ _ _ h => h) (Or.inl ⟨by kernel_rfl, ?_⟩) (by assumption) ?_
      rotate_left
      · ((intro w hSw; (try dsimp only at hSw); go_simp) <;> with_reducible rfl)
      (try simp only [Act.put, List.setIfInBounds_toArray, List.set_cons_zero, List.set_cons_succ])
      refine wpAnyH_take (i := 30) (v := ?_) rfl (by kernel_rfl) (by kernel_rfl) (by kernel_rfl) (fun _ _ _ h => h) (Or.inl ⟨by kernel_rfl, ?_⟩) (by assumption) ?_
      rotate_left
      · ((intro w hSw; (try dsimp only at hSw); go_simp) <;> with_reducible rfl)
      (try simp only [Act.put, List.setIfInBounds_toArray, List.set_cons_zero, List.set_cons_succ])
      refine wpAnyH_take (i := 31) (v := ?_) rfl (by kernel_rfl) (by kernel_rfl) (by kernel_rfl) (fun _ _ _ h => h) (Or.inl ⟨by kernel_rfl, ?_⟩) (by assumption) ?_
      rotate_left
      · ((intro w hSw; (try dsimp only at hSw); go_simp) <;> with_reducible rfl)
      (try simp only [Act.put, List.setIfInBounds_toArray, List.set_cons_zero, List.set_cons_succ])
      refine wpAnyH_take (i := 32) (v := ?_) rfl (by kernel_rfl) (by kernel_rfl) (by kernel_rfl) (fun _ _ _ h => h) (Or.inl ⟨by kernel_rfl, ?_⟩) (by assumption) ?_
      rotate_left
      · ((intro w hSw; (try dsimp only at hSw); go_simp) <;> with_reducible rfl)
      (try simp only [Act.put, List.setIfInBounds_toArray, List.set_cons_zero, List.set_cons_succ])
      refine wpAnyH_take (i := 33) (v := ?_) rfl (by kernel_rfl) (by kernel_rfl) (by kernel_rfl) (fun _ _ _ h => h) (Or.inl ⟨by kernel_rfl, ?_⟩) (by assumption) ?_
      rotate_left
      · ((intro w hSw; (try dsimp only at hSw); go_simp) <;> with_reducible rfl)
      (try simp only [Act.put, List.setIfInBounds_toArray, List.set_cons_zero, List.set_cons_succ])
      refine wpAnyH_take (i := 34) (v := ?_) rfl (by kernel_rfl) (by kernel_rfl) (by kernel_rfl) (fun _ _ _ h => h) (Or.inl ⟨by kernel_rfl, ?_⟩) (by assumption) ?_
      rotate_left
      · ((intro w hSw; (try dsimp only at hSw); go_simp) <;> with_reducible rfl)
      (try simp only [Act.put, List.setIfInBounds_toArray, List.set_cons_zero, List.set_cons_succ])
      refine wpAnyH_ready (rs := [35]) (by kernel_rfl) (by simp) ?_
      refine AllReadyH.cons rfl (fun K hK => ?_) ?_
      rotate_left
      exact AllReadyH.nil
      go_simp
      (go_at_call 21; refine (t1 _ _ (by first | exact Below.refl _ _ | exact below_drew _) _ _ Ld _ _ z0 q0).mono ?_; rintro e w5 ⟨a6, c6, rfl, Ll, b6⟩; (try replace b6 := undrew b6); replace Ev := Lib.hid ((b6.block _ (Array.getElem?_eq_some_iff.1 Ev.out).1).trans Ev.out); replace Ek := Lib.hid ((b6.block _ (Array.getElem?_eq_some_iff.1 Ek.out).1).trans Ek.out); replace Ed := Lib.hid ((b6.block _ (Array.getElem?_eq_some_iff.1 Ed.out).1).trans Ed.out); replace Eb := Lib.hid ((b6.block _ (Array.getElem?_eq_some_iff.1 Eb.out).1).trans Eb.out); (try replace Ld := Ld.below b6); replace B := Below.then B b6; clear y0 y1 y2 y3 y4 y5 y6 y7 y8 y9 y10 y11 yf Xy0 Xy1 Xy2 Xy3 Xy4 Xy5 Xy6 Xy7 Xy8 Xy9 Xy10 Xy11 q0 qf Xq0 z0 z1 z2 z3 z4 z5 z6 zf Xz0 Xz1 Xz2 Xz3 Xz4 Xz5 Xz6 r0 r1 r2 r3 r4 r5 r6 rf Xr0 Xr1 Xr2 Xr3 Xr4 Xr5 Xr6; obtain ⟨y0, y1, y2, y3, y4, y5, y6, y7, y8, y9, y10, y11, yf⟩ := cells12 Ev.out; have Xy0 := fun o => Lib.cell?_alloc_some o y0; have Xy1 := fun o => Lib.cell?_alloc_some o y1; have Xy2 := fun o => Lib.cell?_alloc_some o y2; have Xy3 := fun o => Lib.cell?_alloc_some o y3; have Xy4 := fun o => Lib.cell?_alloc_some o y4; have Xy5 := fun o => Lib.cell?_alloc_some o y5; have Xy6 := fun o => Lib.cell?_alloc_some o y6; have Xy7 := fun o => Lib.cell?_alloc_some o y7; have Xy8 := fun o => Lib.cell?_alloc_some o y8; have Xy9 := fun o => Lib.cell?_alloc_some o y9; have Xy10 := fun o => Lib.cell?_alloc_some o y10; have Xy11 := fun o => Lib.cell?_alloc_some o y11; obtain ⟨q0, qf⟩ := cells1 Ek.out; have Xq0 := fun o => Lib.cell?_alloc_some o q0; obtain ⟨z0, z1, z2, z3, z4, z5, z6, zf⟩ := cells7 Ed.out; have Xz0 := fun o => Lib.cell?_alloc_some o z0; have Xz1 := fun o => Lib.cell?_alloc_some o z1; have Xz2 := fun o => Lib.cell?_alloc_some o z2; have Xz3 := fun o => Lib.cell?_alloc_some o z3; have Xz4 := fun o => Lib.cell?_alloc_some o z4; have Xz5 := fun o => Lib.cell?_alloc_some o z5; have Xz6 := fun o => Lib.cell?_alloc_some o z6; obtain ⟨r0, r1, r2, r3, r4, r5, r6, rf⟩ := cells7 Eb.out; have Xr0 := fun o => Lib.cell?_alloc_some o r0; have Xr1 := fun o => Lib.cell?_alloc_some o r1; have Xr2 := fun o => Lib.cell?_alloc_some o r2; have Xr3 := fun o => Lib.cell?_alloc_some o r3; have Xr4 := fun o => Lib.cell?_alloc_some o r4; have Xr5 := fun o => Lib.cell?_alloc_some o r5; have Xr6 := fun o => Lib.cell?_alloc_some o r6; clear b6)
      clear hHeld
      refine hK.out _ _ ?_ (fun hHeld => ?_)
      · exact ⟨y0, y1, y2, y3, y4, y5, y6, y7, y8, y9, y10, y11, q0, z0, z1, z2, z3, z4, z5, z6, r0, r1, r2, r3, r4, r5, r6⟩
      clear hK K
      (try simp only [Act.put, List.setIfInBounds_toArray, List.set_cons_zero, List.set_cons_succ])
      refine wpAnyH_ready (rs := [36]) (by kernel_rfl) (by simp) ?_
      refine AllReadyH.cons rfl (fun K hK => ?_) ?_
      rotate_left
      exact AllReadyH.nil
      go_simp
      (go_at_call 17; refine (h8 _ _ (by first | exact Below.refl _ _ | exact below_drew _) _ _ _ _ Ld Ll).mono ?_; rintro e w6 ⟨rfl, b6⟩; (try replace b6 := undrew b6); clear h8 Ll; replace Ev := Lib.hid ((b6.block _ (Array.getElem?_eq_some_iff.1 Ev.out).1).trans Ev.out); replace Ek := Lib.hid ((b6.block _ (Array.getElem?_eq_some_iff.1 Ek.out).1).trans Ek.out); replace Ed := Lib.hid ((b6.block _ (Array.getElem?_eq_some_iff.1 Ed.out).1).trans Ed.out); replace Eb := Lib.hid ((b6.block _ (Array.getElem?_eq_some_iff.1 Eb.out).1).trans Eb.out); (try replace Ld := Ld.below b6); replace B := Below.then B b6; clear y0 y1 y2 y3 y4 y5 y6 y7 y8 y9 y10 y11 yf Xy0 Xy1 Xy2 Xy3 Xy4 Xy5 Xy6 Xy7 Xy8 Xy9 Xy10 Xy11 q0 qf Xq0 z0 z1 z2 z3 z4 z5 z6 zf Xz0 Xz1 Xz2 Xz3 Xz4 Xz5 Xz6 r0 r1 r2 r3 r4 r5 r6 rf Xr0 Xr1 Xr2 Xr3 Xr4 Xr5 Xr6; obtain ⟨y0, y1, y2, y3, y4, y5, y6, y7, y8, y9, y10, y11, yf⟩ := cells12 Ev.out; have Xy0 := fun o => Lib.cell?_alloc_some o y0; have Xy1 := fun o => Lib.cell?_alloc_some o y1; have Xy2 := fun o => Lib.cell?_alloc_some o y2; have Xy3 := fun o => Lib.cell?_alloc_some o y3; have Xy4 := fun o => Lib.cell?_alloc_some o y4; have Xy5 := fun o => Lib.cell?_alloc_some o y5; have Xy6 := fun o => Lib.cell?_alloc_some o y6; have Xy7 := fun o => Lib.cell?_alloc_some o y7; have Xy8 := fun o => Lib.cell?_alloc_some o y8; have Xy9 := fun o => Lib.cell?_alloc_some o y9; have Xy10 := fun o => Lib.cell?_alloc_some o y10; have Xy11 := fun o => Lib.cell?_alloc_some o y11; obtain ⟨q0, qf⟩ := cells1 Ek.out; have Xq0 := fun o => Lib.cell?_alloc_some o q0; obtain ⟨z0, z1, z2, z3, z4, z5, z6, zf⟩ := cells7 Ed.out; have Xz0 := fun o => Lib.cell?_alloc_some o z0; have Xz1 := fun o => Lib.cell?_alloc_some o z1; have Xz2 := fun o => Lib.cell?_alloc_some o z2; have Xz3 := fun o => Lib.cell?_alloc_some o z3; have Xz4 := fun o => Lib.cell?_alloc_some o z4; have Xz5 := fun o => Lib.cell?_alloc_some o z5; have Xz6 := fun o => Lib.cell?_alloc_some o z6; obtain ⟨r0, r1, r2, r3, r4, r5, r6, rf⟩ := cells7 Eb.out; have Xr0 := fun o => Lib.cell?_alloc_some o r0; have Xr1 := fun o => Lib.cell?_alloc_some o r1; have Xr2 := fun o => Lib.cell?_alloc_some o r2; have Xr3 := fun o => Lib.cell?_alloc_some o r3; have Xr4 := fun o => Lib.cell?_alloc_some o r4; have Xr5 := fun o => Lib.cell?_alloc_some o r5; have Xr6 := fun o => Lib.cell?_alloc_some o r6; clear b6)
      clear hHeld
      refine hK.out _ _ ?_ (fun hHeld => ?_)
      · exact ⟨y0, y1, y2, y3, y4, y5, y6, y7, y8, y9, y10, y11, q0, z0, z1, z2, z3, z4, z5, z6, r0, r1, r2, r3, r4, r5, r6⟩
      clear hK K
      (try simp only [Act.put, List.setIfInBounds_toArray, List.set_cons_zero, List.set_cons_succ])
      refine wpAnyH_take (i := 37) (v := ?_) rfl (by kernel_rfl) (by kernel_rfl) (by kernel_rfl) (fun _ _ _ h => h) (Or.inl ⟨by kernel_rfl, ?_⟩) (by assumption) ?_
      rotate_left
      · ((intro w hSw; (try dsimp only at hSw); go_simp) <;> with_reducible rfl)
      (try simp only [Act.put, List.setIfInBounds_toArray, List.set_cons_zero, List.set_cons_succ])
      refine wpAnyH_take (i := 38) (v := ?_) rfl (by kernel_rfl) (by kernel_rfl) (by kernel_rfl) (fun _ _ _ h => h) (Or.inl ⟨by kernel_rfl, ?_⟩) (by assumption) ?_
      rotate_left
      · ((intro w hSw; (try dsimp only at hSw); go_simp) <;> with_reducible rfl)
      (try simp only [Act.put, List.setIfInBounds_toArray, List.set_cons_zero, List.set_cons_succ])
      refine wpAnyH_take (i := 39) (v := ?_) rfl (by kernel_rfl) (by kernel_rfl) (by kernel_rfl) (fun _ _ _ h => h) (Or.inl ⟨by kernel_rfl, ?_⟩) (by assumption) ?_
      rotate_left
      · ((intro w hSw; (try dsimp only at hSw); go_simp) <;> with_reducible rfl)
      (try simp only [Act.put, List.setIfInBounds_toArray, List.set_cons_zero, List.set_cons_succ])
      refine wpAnyH_take (i := 40) (v := ?_) rfl (by kernel_rfl) (by kernel_rfl) (by kernel_rfl) (fun _ _ _ h => h) (Or.inl ⟨by kernel_rfl, ?_⟩) (by assumption) ?_
      rotate_left
      · ((intro w hSw; (try dsimp only at hSw); go_simp) <;> with_reducible rfl)
      (try simp only [Act.put, List.setIfInBounds_toArray, List.set_cons_zero, List.set_cons_succ])
      refine wpAnyH_take (i := 41) (v := ?_) rfl (by kernel_rfl) (by kernel_rfl) (by kernel_rfl) (fun _ _ _ h => h) (Or.inl ⟨by kernel_rfl, ?_⟩) (by assumption) ?_
      rotate_left
      · ((intro w hSw; (try dsimp only at hSw); go_simp) <;> with_reducible rfl)
      (try simp only [Act.put, List.setIfInBounds_toArray, List.set_cons_zero, List.set_cons_succ])
      refine wpAnyH_take (i := 42) (v := ?_) rfl (by kernel_rfl) (by kernel_rfl) (by kernel_rfl) (fun _ _ _ h => h) (Or.inl ⟨by kernel_rfl, ?_⟩) (by assumption) ?_
      rotate_left
      · ((intro w hSw; (try dsimp only at hSw); go_simp) <;> with_reducible rfl)
      (try simp only [Act.put, List.setIfInBounds_toArray, List.set_cons_zero, List.set_cons_succ])
      refine wpAnyH_take (i := 43) (v := ?_) rfl (by kernel_rfl) (by kernel_rfl) (by kernel_rfl) (fun _ _ _ h => h) (Or.inl ⟨by kernel_rfl, ?_⟩) (by assumption) ?_
      rotate_left
      · ((intro w hSw; (try dsimp only at hSw); go_simp) <;> with_reducible rfl)
      (try simp only [Act.put, List.setIfInBounds_toArray, List.set_cons_zero, List.set_cons_succ])
      refine wpAnyH_take (i := 44) (v := ?_) rfl (by kernel_rfl) (by kernel_rfl) (by kernel_rfl) (fun _ _ _ h => h) (Or.inl ⟨by kernel_rfl, ?_⟩) (by assumption) ?_
      rotate_left
      · ((intro w hSw; (try dsimp only at hSw); go_simp) <;> with_reducible rfl)
      (try simp only [Act.put, List.setIfInBounds_toArray, List.set_cons_zero, List.set_cons_succ])
      refine wpAnyH_take (i := 45) (v := undef) rfl (by kernel_rfl) (by kernel_rfl) (by kernel_rfl) (fun _ _ _ h => h) (Or.inr ⟨by kernel_rfl, rfl⟩) (by assumption) ?_
      (try simp only [Act.put, List.setIfInBounds_toArray, List.set_cons_zero, List.set_cons_succ])
      refine wpAnyH_take (i := 46) (v := undef) rfl (by kernel_rfl) (by kernel_rfl) (by kernel_rfl) (fun _ _ _ h => h) (Or.inr ⟨by kernel_rfl, rfl⟩) (by assumption) ?_
      (try simp only [Act.put, List.setIfInBounds_toArray, List.set_cons_zero, List.set_cons_succ])
      refine wpAnyH_take (i := 47) (v := undef) rfl (by kernel_rfl) (by kernel_rfl) (by kernel_rfl) (fun _ _ _ h => h) (Or.inr ⟨by kernel_rfl, rfl⟩) (by assumption) ?_
      (try simp only [Act.put, List.setIfInBounds_toArray, List.set_cons_zero, List.set_cons_succ])
      refine wpAnyH_take (i := 48) (v := undef) rfl (by kernel_rfl) (by kernel_rfl) (by kernel_rfl) (fun _ _ _ h => h) (Or.inr ⟨by kernel_rfl, rfl⟩) (by assumption) ?_
      (try simp only [Act.put, List.setIfInBounds_toArray, List.set_cons_zero, List.set_cons_succ])
      refine wpAnyH_take (i := 49) (v := undef) rfl (by kernel_rfl) (by kernel_rfl) (by kernel_rfl) (fun _ _ _ h => h) (Or.inr ⟨by kernel_rfl, rfl⟩) (by assumption) ?_
      (try simp only [Act.put, List.setIfInBounds_toArray, List.set_cons_zero, List.set_cons_succ])
      refine wpAnyH_take (i := 50) (v := ?_) rfl (by kernel_rfl) (by kernel_rfl) (by kernel_rfl) (fun _ _ _ h => h) (Or.inl ⟨by kernel_rfl, ?_⟩) (by assumption) ?_
      rotate_left
      · ((intro w hSw; (try dsimp only at hSw); go_simp) <;> with_reducible rfl)
      (try simp only [Act.put, List.setIfInBounds_toArray, List.set_cons_zero, List.set_cons_succ])
      refine wpAnyH_take (i := 51) (v := ?_) rfl (by kernel_rfl) (by kernel_rfl) (by kernel_rfl) (fun _ _ _ h => h) (Or.inl ⟨by kernel_rfl, ?_⟩) (by assumption) ?_
      rotate_left
      · ((intro w hSw; (try dsimp only at hSw); go_simp) <;> with_reducible rfl)
      (try simp only [Act.put, List.setIfInBounds_toArray, List.set_cons_zero, List.set_cons_succ])
      refine wpAnyH_take (i := 52) (v := undef) rfl (by kernel_rfl) (by kernel_rfl) (by kernel_rfl) (fun _ _ _ h => h) (Or.inr ⟨by kernel_rfl, rfl⟩) (by assumption) ?_
      (try simp only [Act.put, List.setIfInBounds_toArray, List.set_cons_zero, List.set_cons_succ])
      refine wpAnyH_take (i := 53) (v := undef) rfl (by kernel_rfl) (by kernel_rfl) (by kernel_rfl) (fun _ _ _ h => h) (Or.inr ⟨by kernel_rfl, rfl⟩) (by assumption) ?_
      (try simp only [Act.put, List.setIfInBounds_toArray, List.set_cons_zero, List.set_cons_succ])
      refine wpAnyH_take (i := 54) (v := undef) rfl (by kernel_rfl) (by kernel_rfl) (by kernel_rfl) (fun _ _ _ h => h) (Or.inr ⟨by kernel_rfl, rfl⟩) (by assumption) ?_
      (try simp only [Act.put, List.setIfInBounds_toArray, List.set_cons_zero, List.set_cons_succ])
      refine wpAnyH_take (i := 55) (v := undef) rfl (by kernel_rfl) (by kernel_rfl) (by kernel_rfl) (fun _ _ _ h => h) (Or.inr ⟨by kernel_rfl, rfl⟩) (by assumption) ?_
      (try simp only [Act.put, List.setIfInBounds_toArray, List.set_cons_zero, List.set_cons_succ])
      refine wpAnyH_take (i := 56) (v := undef) rfl (by kernel_rfl) (by kernel_rfl) (by kernel_rfl) (fun _ _ _ h => h) (Or.inr ⟨by kernel_rfl, rfl⟩) (by assumption) ?_
      (try simp only [Act.put, List.setIfInBounds_toArray, List.set_cons_zero, List.set_cons_succ])
      refine wpAnyH_take (i := 57) (v := undef) rfl (by kernel_rfl) (by kernel_rfl) (by kernel_rfl) (fun _ _ _ h => h) (Or.inr ⟨by kernel_rfl, rfl⟩) (by assumption) ?_
      (try simp only [Act.put, List.setIfInBounds_toArray, List.set_cons_zero, List.set_cons_succ])
      refine wpAnyH_take (i := 58) (v := undef) rfl (by kernel_rfl) (by kernel_rfl) (by kernel_rfl) (fun _ _ _ h => h) (Or.inr ⟨by kernel_rfl, rfl⟩) (by assumption) ?_
      (try simp only [Act.put, List.setIfInBounds_toArray, List.set_cons_zero, List.set_cons_succ])
      refine wpAnyH_take (i := 59) (v := ?_) rfl (by kernel_rfl) (by kernel_rfl) (by kernel_rfl) (fun _ _ _ h => h) (Or.inl ⟨by kernel_rfl, ?_⟩) (by assumption) ?_
      rotate_left
      · ((intro w hSw; (try dsimp only at hSw); go_simp) <;> with_reducible rfl)
      (try simp only [Act.put, List.setIfInBounds_toArray, List.set_cons_zero, List.set_cons_succ])
      refine wpAnyH_take (i := 60) (v := ?_) rfl (by kernel_rfl) (by kernel_rfl) (by kernel_rfl) (fun _ _ _ h => h) (Or.inl ⟨by kernel_rfl, ?_⟩) (by assumption) ?_
      rotate_left
      · ((intro w hSw; (try dsimp only at hSw); go_simp) <;> with_reducible rfl)
      (try simp only [Act.put, List.setIfInBounds_toArray, List.set_cons_zero, List.set_cons_succ])
      refine wpAnyH_take (i := 61) (v := ?_) rfl (by kernel_rfl) (by kernel_rfl) (by kernel_rfl) (fun _ _ _ h => h) (Or.inl ⟨by kernel_rfl, ?_⟩) (by assumption) ?_
      rotate_left
      · ((intro w hSw; (try dsimp only at hSw); go_simp) <;> with_reducible rfl)
      (try simp only [Act.put, List.setIfInBounds_toArray, List.set_cons_zero, List.set_cons_succ])
      refine wpAnyH_done (by kernel_rfl) ?_ _
      go_wp2
      go_ret
      rename_i x1 d1 f1 x0 d0 f0
      have e1 := Option.some.inj (show some _ = some d1 from f1)
      have e0 := Option.some.inj (show some _ = some d0 from f0)
      subst e1 e0
      exact ⟨by kernel_rfl, B⟩
    · by_cases x2 : v2 = v1
      · subst x2
        have qn : Hid (may (calm ld) l1 = false) := by
          show _ = _
          rw [may_calm, ← Hs.out.2.1]
          exact decide_eq_false (fun e => set_ne hkd x1 (e.trans G0.out.symm))
        have h9 := fun W W' (u : Below W.heap.size W W') a c b kap (p : Stands W a n c (calm ld)) (r : Lv W b n kap l1) => Any9.may_m (p.below u) (r.below u) (by omega) qn
        clear t2
        unfold stv vv at *
        go_enter Try.func5, Try.ntmps5
        go_wp2_with (first | (go_at_call 9; refine (hal _ _).mono ?_; rintro e w1 ⟨rfl, b5⟩; clear hal; obtain ⟨Es, Ev, b6⟩ := alloc2_then b5; clear b5; replace Es := Lib.hid Es; replace Ev := Lib.hid Ev; replace La := La.below b6; have B := b6; obtain ⟨x0, x1, x2, x3, x4, x5, x6, xf⟩ := cells7 Es.out; have Xx0 := fun o => Lib.cell?_alloc_some o x0; have Xx1 := fun o => Lib.cell?_alloc_some o x1; have Xx2 := fun o => Lib.cell?_alloc_some o x2; have Xx3 := fun o => Lib.cell?_alloc_some o x3; have Xx4 := fun o => Lib.cell?_alloc_some o x4; have Xx5 := fun o => Lib.cell?_alloc_some o x5; have Xx6 := fun o => Lib.cell?_alloc_some o x6; obtain ⟨y0, y1, y2, y3, y4, y5, y6, y7, y8, y9, y10, y11, yf⟩ := cells12 Ev.out; have Xy0 := fun o => Lib.cell?_alloc_some o y0; have Xy1 := fun o => Lib.cell?_alloc_some o y1; have Xy2 := fun o => Lib.cell?_alloc_some o y2; have Xy3 := fun o => Lib.cell?_alloc_some o y3; have Xy4 := fun o => Lib.cell?_alloc_some o y4; have Xy5 := fun o => Lib.cell?_alloc_some o y5; have Xy6 := fun o => Lib.cell?_alloc_some o y6; have Xy7 := fun o => Lib.cell?_alloc_some o y7; have Xy8 := fun o => Lib.cell?_alloc_some o y8; have Xy9 := fun o => Lib.cell?_alloc_some o y9; have Xy10 := fun o => Lib.cell?_alloc_some o y10; have Xy11 := fun o => Lib.cell?_alloc_some o y11; clear b6) | (go_at_call 13; refine (h3 _ (La.below (alloc1_below _ _))).mono ?_; rintro e w2 ⟨a5, n5, c5, rfl, Ld, b5⟩; clear h3 La; obtain rfl : n = n5 := (Ld.2.len.symm.trans hdl.out).symm; obtain ⟨Ek, b6⟩ := alloc1_then b5; clear b5; replace Ek := Lib.hid Ek; replace Ev := Lib.hid ((b6.block _ (Array.getElem?_eq_some_iff.1 Ev.out).1).trans Ev.out); replace B := Below.then B b6; clear x0 x1 x2 x3 x4 x5 x6 xf Xx0 Xx1 Xx2 Xx3 Xx4 Xx5 Xx6 y0 y1 y2 y3 y4 y5 y6 y7 y8 y9 y10 y11 yf Xy0 Xy1 Xy2 Xy3 Xy4 Xy5 Xy6 Xy7 Xy8 Xy9 Xy10 Xy11; obtain ⟨y0, y1, y2, y3, y4, y5, y6, y7, y8, y9, y10, y11, yf⟩ := cells12 Ev.out; have Xy0 := fun o => Lib.cell?_alloc_some o y0; have Xy1 := fun o => Lib.cell?_alloc_some o y1; have Xy2 := fun o => Lib.cell?_alloc_some o y2; have Xy3 := fun o => Lib.cell?_alloc_some o y3; have Xy4 := fun o => Lib.cell?_alloc_some o y4; have Xy5 := fun o => Lib.cell?_alloc_some o y5; have Xy6 := fun o => Lib.cell?_alloc_some o y6; have Xy7 := fun o => Lib.cell?_alloc_some o y7; have Xy8 := fun o => Lib.cell?_alloc_some o y8; have Xy9 := fun o => Lib.cell?_alloc_some o y9; have Xy10 := fun o => Lib.cell?_alloc_some o y10; have Xy11 := fun o => Lib.cell?_alloc_some o y11; obtain ⟨q0, qf⟩ := cells1 Ek.out; have Xq0 := fun o => Lib.cell?_alloc_some o q0; clear b6 Es) | (go_at_call 15; refine (h5 _ _ _ (Ld.below (alloc1_below _ _))).mono ?_; rintro e w3 ⟨rfl, _, b5⟩; clear h5; obtain ⟨Ed, b6⟩ := alloc1_then b5; clear b5; replace Ed := Lib.hid Ed; replace Ev := Lib.hid ((b6.block _ (Array.getElem?_eq_some_iff.1 Ev.out).1).trans Ev.out); replace Ek := Lib.hid ((b6.block _ (Array.getElem?_eq_some_iff.1 Ek.out).1).trans Ek.out); replace Ld := Ld.below b6; replace B := Below.then B b6; clear y0 y1 y2 y3 y4 y5 y6 y7 y8 y9 y10 y11 yf Xy0 Xy1 Xy2 Xy3 Xy4 Xy5 Xy6 Xy7 Xy8 Xy9 Xy10 Xy11 q0 qf Xq0; obtain ⟨y0, y1, y2, y3, y4, y5, y6, y7, y8, y9, y10, y11, yf⟩ := cells12 Ev.out; have Xy0 := fun o => Lib.cell?_alloc_some o y0; have Xy1 := fun o => Lib.cell?_alloc_some o y1; have Xy2 := fun o => Lib.cell?_alloc_some o y2; have Xy3 := fun o => Lib.cell?_alloc_some o y3; have Xy4 := fun o => Lib.cell?_alloc_some o y4; have Xy5 := fun o => Lib.cell?_alloc_some o y5; have Xy6 := fun o => Lib.cell?_alloc_some o y6; have Xy7 := fun o => Lib.cell?_alloc_some o y7; have Xy8 := fun o => Lib.cell?_alloc_some o y8; have Xy9 := fun o => Lib.cell?_alloc_some o y9; have Xy10 := fun o => Lib.cell?_alloc_some o y10; have Xy11 := fun o => Lib.cell?_alloc_some o y11; obtain ⟨q0, qf⟩ := cells1 Ek.out; have Xq0 := fun o => Lib.cell?_alloc_some o q0; obtain ⟨z0, z1, z2, z3, z4, z5, z6, zf⟩ := cells7 Ed.out; have Xz0 := fun o => Lib.cell?_alloc_some o z0; have Xz1 := fun o => Lib.cell?_alloc_some o z1; have Xz2 := fun o => Lib.cell?_alloc_some o z2; have Xz3 := fun o => Lib.cell?_alloc_some o z3; have Xz4 := fun o => Lib.cell?_alloc_some o z4; have Xz5 := fun o => Lib.cell?_alloc_some o z5; have Xz6 := fun o => Lib.cell?_alloc_some o z6; clear b6))
        have b6 := alloc1_below w3 (.cells #[.slice a5 n c5, .bool sb.going, .int .i64 sb.at_, .int .u32 sb.next.a, .int .u32 sb.next.b, .int .u32 sb.next.c, .int .u32 sb.next.d] 28)
        have Eb := Lib.hid (heap_alloc_new w3 (.cells #[.slice a5 n c5, .bool sb.going, .int .i64 sb.at_, .int .u32 sb.next.a, .int .u32 sb.next.b, .int .u32 sb.next.c, .int .u32 sb.next.d] 28))
        generalize w3.alloc (.cells #[.slice a5 n c5, .bool sb.going, .int .i64 sb.at_, .int .u32 sb.next.a, .int .u32 sb.next.b, .int .u32 sb.next.c, .int .u32 sb.next.d] 28) = wB at *
        replace Ev := Lib.hid ((b6.block _ (Array.getElem?_eq_some_iff.1 Ev.out).1).trans Ev.out); replace Ek := Lib.hid ((b6.block _ (Array.getElem?_eq_some_iff.1 Ek.out).1).trans Ek.out); replace Ed := Lib.hid ((b6.block _ (Array.getElem?_eq_some_iff.1 Ed.out).1).trans Ed.out); replace Ld := Ld.below b6; replace B := Below.then B b6; clear y0 y1 y2 y3 y4 y5 y6 y7 y8 y9 y10 y11 yf Xy0 Xy1 Xy2 Xy3 Xy4 Xy5 Xy6 Xy7 Xy8 Xy9 Xy10 Xy11 q0 qf Xq0 z0 z1 z2 z3 z4 z5 z6 zf Xz0 Xz1 Xz2 Xz3 Xz4 Xz5 Xz6; 
        obtain ⟨y0, y1, y2, y3, y4, y5, y6, y7, y8, y9, y10, y11, yf⟩ := cells12 Ev.out; have Xy0 := fun o => Lib.cell?_alloc_some o y0; have Xy1 := fun o => Lib.cell?_alloc_some o y1; have Xy2 := fun o => Lib.cell?_alloc_some o y2; have Xy3 := fun o => Lib.cell?_alloc_some o y3; have Xy4 := fun o => Lib.cell?_alloc_some o y4; have Xy5 := fun o => Lib.cell?_alloc_some o y5; have Xy6 := fun o => Lib.cell?_alloc_some o y6; have Xy7 := fun o => Lib.cell?_alloc_some o y7; have Xy8 := fun o => Lib.cell?_alloc_some o y8; have Xy9 := fun o => Lib.cell?_alloc_some o y9; have Xy10 := fun o => Lib.cell?_alloc_some o y10; have Xy11 := fun o => Lib.cell?_alloc_some o y11; obtain ⟨q0, qf⟩ := cells1 Ek.out; have Xq0 := fun o => Lib.cell?_alloc_some o q0; obtain ⟨z0, z1, z2, z3, z4, z5, z6, zf⟩ := cells7 Ed.out; have Xz0 := fun o => Lib.cell?_alloc_some o z0; have Xz1 := fun o => Lib.cell?_alloc_some o z1; have Xz2 := fun o => Lib.cell?_alloc_some o z2; have Xz3 := fun o => Lib.cell?_alloc_some o z3; have Xz4 := fun o => Lib.cell?_alloc_some o z4; have Xz5 := fun o => Lib.cell?_alloc_some o z5; have Xz6 := fun o => Lib.cell?_alloc_some o z6; obtain ⟨r0, r1, r2, r3, r4, r5, r6, rf⟩ := cells7 Eb.out; have Xr0 := fun o => Lib.cell?_alloc_some o r0; have Xr1 := fun o => Lib.cell?_alloc_some o r1; have Xr2 := fun o => Lib.cell?_alloc_some o r2; have Xr3 := fun o => Lib.cell?_alloc_some o r3; have Xr4 := fun o => Lib.cell?_alloc_some o r4; have Xr5 := fun o => Lib.cell?_alloc_some o r5; have Xr6 := fun o => Lib.cell?_alloc_some o r6
        clear b6
        refine wp_region_held_drew (S := (fun W => W.cell? ⟨w.heap.size + 1, 0, none⟩ = some (.int .u32 v0.a) ∧ W.cell? ⟨w.heap.size + 1, 1, none⟩ = some (.int .u32 v0.b) ∧ W.cell? ⟨w.heap.size + 1, 2, none⟩ = some (.int .u32 v0.c) ∧ W.cell? ⟨w.heap.size + 1, 3, none⟩ = some (.int .u32 v0.d) ∧ W.cell? ⟨w.heap.size + 1, 4, none⟩ = some (.int .u32 v2.a) ∧ W.cell? ⟨w.heap.size + 1, 5, none⟩ = some (.int .u32 v2.b) ∧ W.cell? ⟨w.heap.size + 1, 6, none⟩ = some (.int .u32 v2.c) ∧ W.cell? ⟨w.heap.size + 1, 7, none⟩ = some (.int .u32 v2.d) ∧ W.cell? ⟨w.heap.size + 1, 8, none⟩ = some (.int .u32 v2.a) ∧ W.cell? ⟨w.heap.size + 1, 9, none⟩ = some (.int .u32 v2.b) ∧ W.cell? ⟨w.heap.size + 1, 10, none⟩ = some (.int .u32 v2.c) ∧ W.cell? ⟨w.heap.size + 1, 11, none⟩ = some (.int .u32 v2.d) ∧ W.cell? ⟨w1.heap.size, 0, none⟩ = some (.int .i64 k) ∧ W.cell? ⟨w2.heap.size, 0, none⟩ = some (.slice a5 n c5) ∧ W.cell? ⟨w2.heap.size, 1, none⟩ = some (.bool (calm ld).going) ∧ W.cell? ⟨w2.heap.size, 2, none⟩ = some (.int .i64 (calm ld).at_) ∧ W.cell? ⟨w2.heap.size, 3, none⟩ = some (.int .u32 (calm ld).next.a) ∧ W.cell? ⟨w2.heap.size, 4, none⟩ = some (.int .u32 (calm ld).next.b) ∧ W.cell? ⟨w2.heap.size, 5, none⟩ = some (.int .u32 (calm ld).next.c) ∧ W.cell? ⟨w2.heap.size, 6, none⟩ = some (.int .u32 (calm ld).next.d) ∧ W.cell? ⟨w3.heap.size, 0, none⟩ = some (.slice a5 n c5) ∧ W.cell? ⟨w3.heap.size, 1, none⟩ = some (.bool sb.going) ∧ W.cell? ⟨w3.heap.size, 2, none⟩ = some (.int .i64 sb.at_) ∧ W.cell? ⟨w3.heap.size, 3, none⟩ = some (.int .u32 sb.next.a) ∧ W.cell? ⟨w3.heap.size, 4, none⟩ = some (.int .u32 sb.next.b) ∧ W.cell? ⟨w3.heap.size, 5, none⟩ = some (.int .u32 sb.next.c) ∧ W.cell? ⟨w3.heap.size, 6, none⟩ = some (.int .u32 sb.next.d))) (by kernel_rfl) ?_ (fun hHeld => ?_)
        · exact ⟨y0, y1, y2, y3, y4, y5, y6, y7, y8, y9, y10, y11, q0, z0, z1, z2, z3, z4, z5, z6, r0, r1, r2, r3, r4, r5, r6⟩
        refine wpAnyH_take (i := 0) (v := ?_) rfl (by kernel_rfl) (by kernel_rfl) (by kernel_rfl) (fun _ _ _ h => h) (Or.inl ⟨by kernel_rfl, ?_⟩) (by assumption) ?_
        rotate_left
        · ((intro w hSw; (try dsimp only at hSw); go_simp) <;> with_reducible rfl)
        (try simp only [Act.put, List.setIfInBounds_toArray, List.set_cons_zero, List.set_cons_succ])
        refine wpAnyH_take (i := 1) (v := ?_) rfl (by kernel_rfl) (by kernel_rfl) (by kernel_rfl) (fun _ _ _ h => h) (Or.inl ⟨by kernel_rfl, ?_⟩) (by assumption) ?_
        rotate_left
        · ((intro w hSw; (try dsimp only at hSw); go_simp) <;> with_reducible rfl)
        (try simp only [Act.put, List.setIfInBounds_toArray, List.set_cons_zero, List.set_cons_succ])
        refine wpAnyH_take (i := 2) (v := ?_) rfl (by kernel_rfl) (by kernel_rfl) (by kernel_rfl) (fun _ _ _ h => h) (Or.inl ⟨by kernel_rfl, ?_⟩) (by assumption) ?_
        rotate_left
        · ((intro w hSw; (try dsimp only at hSw); go_simp) <;> with_reducible rfl)
        (try simp only [Act.put, List.setIfInBounds_toArray, List.set_cons_zero, List.set_cons_succ])
        refine wpAnyH_take (i := 3) (v := ?_) rfl (by kernel_rfl) (by kernel_rfl) (by kernel_rfl) (fun _ _ _ h => h) (Or.inl ⟨by kernel_rfl, ?_⟩) (by assumption) ?_
        rotate_left
        · ((intro w hSw; (try dsimp only at hSw); go_simp) <;> with_reducible rfl)
        (try simp only [Act.put, List.setIfInBounds_toArray, List.set_cons_zero, List.set_cons_succ])
        refine wpAnyH_ready (rs := [4]) (by kernel_rfl) (by simp) ?_
        refine AllReadyH.cons rfl (fun K hK => ?_) ?_
        rotate_left
        exact AllReadyH.nil
        go_simp
        (go_at_call 21; refine (t0 _ _ (by first | exact Below.refl _ _ | exact below_drew _) _ _ Ld _ _ z0 q0).mono ?_; rintro e w5 ⟨a6, c6, rfl, Ll, b6⟩; (try replace b6 := undrew b6); replace Ev := Lib.hid ((b6.block _ (Array.getElem?_eq_some_iff.1 Ev.out).1).trans Ev.out); replace Ek := Lib.hid ((b6.block _ (Array.getElem?_eq_some_iff.1 Ek.out).1).trans Ek.out); replace Ed := Lib.hid ((b6.block _ (Array.getElem?_eq_some_iff.1 Ed.out).1).trans Ed.out); replace Eb := Lib.hid ((b6.block _ (Array.getElem?_eq_some_iff.1 Eb.out).1).trans Eb.out); (try replace Ld := Ld.below b6); replace B := Below.then B b6; clear y0 y1 y2 y3 y4 y5 y6 y7 y8 y9 y10 y11 yf Xy0 Xy1 Xy2 Xy3 Xy4 Xy5 Xy6 Xy7 Xy8 Xy9 Xy10 Xy11 q0 qf Xq0 z0 z1 z2 z3 z4 z5 z6 zf Xz0 Xz1 Xz2 Xz3 Xz4 Xz5 Xz6 r0 r1 r2 r3 r4 r5 r6 rf Xr0 Xr1 Xr2 Xr3 Xr4 Xr5 Xr6; obtain ⟨y0, y1, y2, y3, y4, y5, y6, y7, y8, y9, y10, y11, yf⟩ := cells12 Ev.out; have Xy0 := fun o => Lib.cell?_alloc_some o y0; have Xy1 := fun o => Lib.cell?_alloc_some o y1; have Xy2 := fun o => Lib.cell?_alloc_some o y2; have Xy3 := fun o => Lib.cell?_alloc_some o y3; have Xy4 := fun o => Lib.cell?_alloc_some o y4; have Xy5 := fun o => Lib.cell?_alloc_some o y5; have Xy6 := fun o => Lib.cell?_alloc_some o y6; have Xy7 := fun o => Lib.cell?_alloc_some o y7; have Xy8 := fun o => Lib.cell?_alloc_some o y8; have Xy9 := fun o => Lib.cell?_alloc_some o y9; have Xy10 := fun o => Lib.cell?_alloc_some o y10; have Xy11 := fun o => Lib.cell?_alloc_some o y11; obtain ⟨q0, qf⟩ := cells1 Ek.out; have Xq0 := fun o => Lib.cell?_alloc_some o q0; obtain ⟨z0, z1, z2, z3, z4, z5, z6, zf⟩ := cells7 Ed.out; have Xz0 := fun o => Lib.cell?_alloc_some o z0; have Xz1 := fun o => Lib.cell?_alloc_some o z1; have Xz2 := fun o => Lib.cell?_alloc_some o z2; have Xz3 := fun o => Lib.cell?_alloc_some o z3; have Xz4 := fun o => Lib.cell?_alloc_some o z4; have Xz5 := fun o => Lib.cell?_alloc_some o z5; have Xz6 := fun o => Lib.cell?_alloc_some o z6; obtain ⟨r0, r1, r2, r3, r4, r5, r6, rf⟩ := cells7 Eb.out; have Xr0 := fun o => Lib.cell?_alloc_some o r0; have Xr1 := fun o => Lib.cell?_alloc_some o r1; have Xr2 := fun o => Lib.cell?_alloc_some o r2; have Xr3 := fun o => Lib.cell?_alloc_some o r3; have Xr4 := fun o => Lib.cell?_alloc_some o r4; have Xr5 := fun o => Lib.cell?_alloc_some o r5; have Xr6 := fun o => Lib.cell?_alloc_some o r6; clear b6)
        clear hHeld
        refine hK.out _ _ ?_ (fun hHeld => ?_)
        · exact ⟨y0, y1, y2, y3, y4, y5, y6, y7, y8, y9, y10, y11, q0, z0, z1, z2, z3, z4, z5, z6, r0, r1, r2, r3, r4, r5, r6⟩
        clear hK K
        (try simp only [Act.put, List.setIfInBounds_toArray, List.set_cons_zero, List.set_cons_succ])
        refine wpAnyH_ready (rs := [5]) (by kernel_rfl) (by simp) ?_
        refine AllReadyH.cons rfl (fun K hK => ?_) ?_
        rotate_left
        exact AllReadyH.nil
        go_simp
        (go_at_call 17; refine (h6 _ _ (by first | exact Below.refl _ _ | exact below_drew _) _ _ _ _ Ld Ll).mono ?_; rintro e w6 ⟨rfl, b6⟩; (try replace b6 := undrew b6); clear h6 Ll; replace Ev := Lib.hid ((b6.block _ (Array.getElem?_eq_some_iff.1 Ev.out).1).trans Ev.out); replace Ek := Lib.hid ((b6.block _ (Array.getElem?_eq_some_iff.1 Ek.out).1).trans Ek.out); replace Ed := Lib.hid ((b6.block _ (Array.getElem?_eq_some_iff.1 Ed.out).1).trans Ed.out); replace Eb := Lib.hid ((b6.block _ (Array.getElem?_eq_some_iff.1 Eb.out).1).trans Eb.out); (try replace Ld := Ld.below b6); replace B := Below.then B b6; clear y0 y1 y2 y3 y4 y5 y6 y7 y8 y9 y10 y11 yf Xy0 Xy1 Xy2 Xy3 Xy4 Xy5 Xy6 Xy7 Xy8 Xy9 Xy10 Xy11 q0 qf Xq0 z0 z1 z2 z3 z4 z5 z6 zf Xz0 Xz1 Xz2 Xz3 Xz4 Xz5 Xz6 r0 r1 r2 r3 r4 r5 r6 rf Xr0 Xr1 Xr2 Xr3 Xr4 Xr5 Xr6; obtain ⟨y0, y1, y2, y3, y4, y5, y6, y7, y8, y9, y10, y11, yf⟩ := cells12 Ev.out; have Xy0 := fun o => Lib.cell?_alloc_some o y0; have Xy1 := fun o => Lib.cell?_alloc_some o y1; have Xy2 := fun o => Lib.cell?_alloc_some o y2; have Xy3 := fun o => Lib.cell?_alloc_some o y3; have Xy4 := fun o => Lib.cell?_alloc_some o y4; have Xy5 := fun o => Lib.cell?_alloc_some o y5; have Xy6 := fun o => Lib.cell?_alloc_some o y6; have Xy7 := fun o => Lib.cell?_alloc_some o y7; have Xy8 := fun o => Lib.cell?_alloc_some o y8; have Xy9 := fun o => Lib.cell?_alloc_some o y9; have Xy10 := fun o => Lib.cell?_alloc_some o y10; have Xy11 := fun o => Lib.cell?_alloc_some o y11; obtain ⟨q0, qf⟩ := cells1 Ek.out; have Xq0 := fun o => Lib.cell?_alloc_some o q0; obtain ⟨z0, z1, z2, z3, z4, z5, z6, zf⟩ := cells7 Ed.out; have Xz0 := fun o => Lib.cell?_alloc_some o z0; have Xz1 := fun o => Lib.cell?_alloc_some o z1; have Xz2 := fun o => Lib.cell?_alloc_some o z2; have Xz3 := fun o => Lib.cell?_alloc_some o z3; have Xz4 := fun o => Lib.cell?_alloc_some o z4; have Xz5 := fun o => Lib.cell?_alloc_some o z5; have Xz6 := fun o => Lib.cell?_alloc_some o z6; obtain ⟨r0, r1, r2, r3, r4, r5, r6, rf⟩ := cells7 Eb.out; have Xr0 := fun o => Lib.cell?_alloc_some o r0; have Xr1 := fun o => Lib.cell?_alloc_some o r1; have Xr2 := fun o => Lib.cell?_alloc_some o r2; have Xr3 := fun o => Lib.cell?_alloc_some o r3; have Xr4 := fun o => Lib.cell?_alloc_some o r4; have Xr5 := fun o => Lib.cell?_alloc_some o r5; have Xr6 := fun o => Lib.cell?_alloc_some o r6; clear b6)
        clear hHeld
        refine hK.out _ _ ?_ (fun hHeld => ?_)
        · exact ⟨y0, y1, y2, y3, y4, y5, y6, y7, y8, y9, y10, y11, q0, z0, z1, z2, z3, z4, z5, z6, r0, r1, r2, r3, r4, r5, r6⟩
        clear hK K
        (try simp only [Act.put, List.setIfInBounds_toArray, List.set_cons_zero, List.set_cons_succ])
        refine wpAnyH_take (i := 6) (v := ?_) rfl (by kernel_rfl) (by kernel_rfl) (by kernel_rfl) (fun _ _ _ h => h) (Or.inl ⟨by kernel_rfl, ?_⟩) (by assumption) ?_
        rotate_left
        · ((intro w hSw; (try dsimp only at hSw); go_simp) <;> with_reducible rfl)
        (try simp only [Act.put, List.setIfInBounds_toArray, List.set_cons_zero, List.set_cons_succ])
        refine wpAnyH_take (i := 7) (v := ?_) rfl (by kernel_rfl) (by kernel_rfl) (by kernel_rfl) (fun _ _ _ h => h) (Or.inl ⟨by kernel_rfl, ?_⟩) (by assumption) ?_
        rotate_left
        · ((intro w hSw; (try dsimp only at hSw); go_simp) <;> with_reducible rfl)
        (try simp only [Act.put, List.setIfInBounds_toArray, List.set_cons_zero, List.set_cons_succ])
        refine wpAnyH_take (i := 8) (v := ?_) rfl (by kernel_rfl) (by kernel_rfl) (by kernel_rfl) (fun _ _ _ h => h) (Or.inl ⟨by kernel_rfl, ?_⟩) (by assumption) ?_
        rotate_left
        · ((intro w hSw; (try dsimp only at hSw); go_simp) <;> with_reducible rfl)
        (try simp only [Act.put, List.setIfInBounds_toArray, List.set_cons_zero, List.set_cons_succ])
        refine wpAnyH_take (i := 9) (v := ?_) rfl (by kernel_rfl) (by kernel_rfl) (by kernel_rfl) (fun _ _ _ h => h) (Or.inl ⟨by kernel_rfl, ?_⟩) (by assumption) ?_
        rotate_left
        · ((intro w hSw; (try dsimp only at hSw); go_simp) <;> with_reducible rfl)
        (try simp only [Act.put, List.setIfInBounds_toArray, List.set_cons_zero, List.set_cons_succ])
        refine wpAnyH_take (i := 10) (v := ?_) rfl (by kernel_rfl) (by kernel_rfl) (by kernel_rfl) (fun _ _ _ h => h) (Or.inl ⟨by kernel_rfl, ?_⟩) (by assumption) ?_
        rotate_left
        · ((intro w hSw; (try dsimp only at hSw); go_simp) <;> with_reducible rfl)
        (try simp only [Act.put, List.setIfInBounds_toArray, List.set_cons_zero, List.set_cons_succ])
        refine wpAnyH_take (i := 11) (v := ?_) rfl (by kernel_rfl) (by kernel_rfl) (by kernel_rfl) (fun _ _ _ h => h) (Or.inl ⟨by kernel_rfl, ?_⟩) (by assumption) ?_
        rotate_left
        · ((intro w hSw; (try dsimp only at hSw); go_simp) <;> with_reducible rfl)
        (try simp only [Act.put, List.setIfInBounds_toArray, List.set_cons_zero, List.set_cons_succ])
        refine wpAnyH_take (i := 12) (v := ?_) rfl (by kernel_rfl) (by kernel_rfl) (by kernel_rfl) (fun _ _ _ h => h) (Or.inl ⟨by kernel_rfl, ?_⟩) (by assumption) ?_
        rotate_left
        · ((intro w hSw; (try dsimp only at hSw); go_simp) <;> with_reducible rfl)
        (try simp only [Act.put, List.setIfInBounds_toArray, List.set_cons_zero, List.set_cons_succ])
        refine wpAnyH_take (i := 13) (v := ?_) rfl (by kernel_rfl) (by kernel_rfl) (by kernel_rfl) (fun _ _ _ h => h) (Or.inl ⟨by kernel_rfl, ?_⟩) (by assumption) ?_
        rotate_left
        · ((intro w hSw; (try dsimp only at hSw); go_simp) <;> with_reducible rfl)
        (try simp only [Act.put, List.setIfInBounds_toArray, List.set_cons_zero, List.set_cons_succ])
        refine wpAnyH_take (i := 14) (v := ?_) rfl (by kernel_rfl) (by kernel_rfl) (by kernel_rfl) (fun _ _ _ h => h) (Or.inl ⟨by kernel_rfl, ?_⟩) (by assumption) ?_
        rotate_left
        · ((intro w hSw; (try dsimp only at hSw); go_simp) <;> with_reducible rfl)
        (try simp only [Act.put, List.setIfInBounds_toArray, List.set_cons_zero, List.set_cons_succ])
        refine wpAnyH_take (i := 15) (v := ?_) rfl (by kernel_rfl) (by kernel_rfl) (by kernel_rfl) (fun _ _ _ h => h) (Or.inl ⟨by kernel_rfl, ?_⟩) (by assumption) ?_
        rotate_left
        · ((intro w hSw; (try dsimp only at hSw); go_simp) <;> with_reducible rfl)
        (try simp only [Act.put, List.setIfInBounds_toArray, List.set_cons_zero, List.set_cons_succ])
        refine wpAnyH_take (i := 16) (v := ?_) rfl (by kernel_rfl) (by kernel_rfl) (by kernel_rfl) (fun _ _ _ h => h) (Or.inl ⟨by kernel_rfl, ?_⟩) (by assumption) ?_
        rotate_left
        · ((intro w hSw; (try dsimp only at hSw); go_simp) <;> with_reducible rfl)
        (try simp only [Act.put, List.setIfInBounds_toArray, List.set_cons_zero, List.set_cons_succ])
        refine wpAnyH_ready (rs := [17]) (by kernel_rfl) (by simp) ?_
        refine AllReadyH.cons rfl (fun K hK => ?_) ?_
        rotate_left
        exact AllReadyH.nil
        go_simp
        (go_at_call 21; refine (t1 _ _ (by first | exact Below.refl _ _ | exact below_drew _) _ _ Ld _ _ z0 q0).mono ?_; rintro e w5 ⟨a6, c6, rfl, Ll, b6⟩; (try replace b6 := undrew b6); replace Ev := Lib.hid ((b6.block _ (Array.getElem?_eq_some_iff.1 Ev.out).1).trans Ev.out); replace Ek := Lib.hid ((b6.block _ (Array.getElem?_eq_some_iff.1 Ek.out).1).trans Ek.out); replace Ed := Lib.hid ((b6.block _ (Array.getElem?_eq_some_iff.1 Ed.out).1).trans Ed.out); replace Eb := Lib.hid ((b6.block _ (Array.getElem?_eq_some_iff.1 Eb.out).1).trans Eb.out); (try replace Ld := Ld.below b6); replace B := Below.then B b6; clear y0 y1 y2 y3 y4 y5 y6 y7 y8 y9 y10 y11 yf Xy0 Xy1 Xy2 Xy3 Xy4 Xy5 Xy6 Xy7 Xy8 Xy9 Xy10 Xy11 q0 qf Xq0 z0 z1 z2 z3 z4 z5 z6 zf Xz0 Xz1 Xz2 Xz3 Xz4 Xz5 Xz6 r0 r1 r2 r3 r4 r5 r6 rf Xr0 Xr1 Xr2 Xr3 Xr4 Xr5 Xr6; obtain ⟨y0, y1, y2, y3, y4, y5, y6, y7, y8, y9, y10, y11, yf⟩ := cells12 Ev.out; have Xy0 := fun o => Lib.cell?_alloc_some o y0; have Xy1 := fun o => Lib.cell?_alloc_some o y1; have Xy2 := fun o => Lib.cell?_alloc_some o y2; have Xy3 := fun o => Lib.cell?_alloc_some o y3; have Xy4 := fun o => Lib.cell?_alloc_some o y4; have Xy5 := fun o => Lib.cell?_alloc_some o y5; have Xy6 := fun o => Lib.cell?_alloc_some o y6; have Xy7 := fun o => Lib.cell?_alloc_some o y7; have Xy8 := fun o => Lib.cell?_alloc_some o y8; have Xy9 := fun o => Lib.cell?_alloc_some o y9; have Xy10 := fun o => Lib.cell?_alloc_some o y10; have Xy11 := fun o => Lib.cell?_alloc_some o y11; obtain ⟨q0, qf⟩ := cells1 Ek.out; have Xq0 := fun o => Lib.cell?_alloc_some o q0; obtain ⟨z0, z1, z2, z3, z4, z5, z6, zf⟩ := cells7 Ed.out; have Xz0 := fun o => Lib.cell?_alloc_some o z0; have Xz1 := fun o => Lib.cell?_alloc_some o z1; have Xz2 := fun o => Lib.cell?_alloc_some o z2; have Xz3 := fun o => Lib.cell?_alloc_some o z3; have Xz4 := fun o => Lib.cell?_alloc_some o z4; have Xz5 := fun o => Lib.cell?_alloc_some o z5; have Xz6 := fun o => Lib.cell?_alloc_some o z6; obtain ⟨r0, r1, r2, r3, r4, r5, r6, rf⟩ := cells7 Eb.out; have Xr0 := fun o => Lib.cell?_alloc_some o r0; have Xr1 := fun o => Lib.cell?_alloc_some o r1; have Xr2 := fun o => Lib.cell?_alloc_some o r2; have Xr3 := fun o => Lib.cell?_alloc_some o r3; have Xr4 := fun o => Lib.cell?_alloc_some o r4; have Xr5 := fun o => Lib.cell?_alloc_some o r5; have Xr6 := fun o => Lib.cell?_alloc_some o r6; clear b6)
        clear hHeld
        refine hK.out _ _ ?_ (fun hHeld => ?_)
        · exact ⟨y0, y1, y2, y3, y4, y5, y6, y7, y8, y9, y10, y11, q0, z0, z1, z2, z3, z4, z5, z6, r0, r1, r2, r3, r4, r5, r6⟩
        clear hK K
        (try simp only [Act.put, List.setIfInBounds_toArray, List.set_cons_zero, List.set_cons_succ])
        refine wpAnyH_ready (rs := [18]) (by kernel_rfl) (by simp) ?_
        refine AllReadyH.cons rfl (fun K hK => ?_) ?_
        rotate_left
        exact AllReadyH.nil
        go_simp
        (go_at_call 17; refine (h9 _ _ (by first | exact Below.refl _ _ | exact below_drew _) _ _ _ _ Ld Ll).mono ?_; rintro e w6 ⟨rfl, b6⟩; (try replace b6 := undrew b6); clear h9 Ll; replace Ev := Lib.hid ((b6.block _ (Array.getElem?_eq_some_iff.1 Ev.out).1).trans Ev.out); replace Ek := Lib.hid ((b6.block _ (Array.getElem?_eq_some_iff.1 Ek.out).1).trans Ek.out); replace Ed := Lib.hid ((b6.block _ (Array.getElem?_eq_some_iff.1 Ed.out).1).trans Ed.out); replace Eb := Lib.hid ((b6.block _ (Array.getElem?_eq_some_iff.1 Eb.out).1).trans Eb.out); (try replace Ld := Ld.below b6); replace B := Below.then B b6; clear y0 y1 y2 y3 y4 y5 y6 y7 y8 y9 y10 y11 yf Xy0 Xy1 Xy2 Xy3 Xy4 Xy5 Xy6 Xy7 Xy8 Xy9 Xy10 Xy11 q0 qf Xq0 z0 z1 z2 z3 z4 z5 z6 zf Xz0 Xz1 Xz2 Xz3 Xz4 Xz5 Xz6 r0 r1 r2 r3 r4 r5 r6 rf Xr0 Xr1 Xr2 Xr3 Xr4 Xr5 Xr6; obtain ⟨y0, y1, y2, y3, y4, y5, y6, y7, y8, y9, y10, y11, yf⟩ := cells12 Ev.out; have Xy0 := fun o => Lib.cell?_alloc_some o y0; have Xy1 := fun o => Lib.cell?_alloc_some o y1; have Xy2 := fun o => Lib.cell?_alloc_some o y2; have Xy3 := fun o => Lib.cell?_alloc_some o y3; have Xy4 := fun o => Lib.cell?_alloc_some o y4; have Xy5 := fun o => Lib.cell?_alloc_some o y5; have Xy6 := fun o => Lib.cell?_alloc_some o y6; have Xy7 := fun o => Lib.cell?_alloc_some o y7; have Xy8 := fun o => Lib.cell?_alloc_some o y8; have Xy9 := fun o => Lib.cell?_alloc_some o y9; have Xy10 := fun o => Lib.cell?_alloc_some o y10; have Xy11 := fun o => Lib.cell?_alloc_some o y11; obtain ⟨q0, qf⟩ := cells1 Ek.out; have Xq0 := fun o => Lib.cell?_alloc_some o q0; obtain ⟨z0, z1, z2, z3, z4, z5, z6, zf⟩ := cells7 Ed.out; have Xz0 := fun o => Lib.cell?_alloc_some o z0; have Xz1 := fun o => Lib.cell?_alloc_some o z1; have Xz2 := fun o => Lib.cell?_alloc_some o z2; have Xz3 := fun o => Lib.cell?_alloc_some o z3; have Xz4 := fun o => Lib.cell?_alloc_some o z4; have Xz5 := fun o => Lib.cell?_alloc_some o z5; have Xz6 := fun o => Lib.cell?_alloc_some o z6; obtain ⟨r0, r1, r2, r3, r4, r5, r6, rf⟩ := cells7 Eb.out; have Xr0 := fun o => Lib.cell?_alloc_some o r0; have Xr1 := fun o => Lib.cell?_alloc_some o r1; have Xr2 := fun o => Lib.cell?_alloc_some o r2; have Xr3 := fun o => Lib.cell?_alloc_some o r3; have Xr4 := fun o => Lib.cell?_alloc_some o r4; have Xr5 := fun o => Lib.cell?_alloc_some o r5; have Xr6 := fun o => Lib.cell?_alloc_some o r6; clear b6)
        clear hHeld
        refine hK.out _ _ ?_ (fun hHeld => ?_)
        · exact ⟨y0, y1, y2, y3, y4, y5, y6, y7, y8, y9, y10, y11, q0, z0, z1, z2, z3, z4, z5, z6, r0, r1, r2, r3, r4, r5, r6⟩
        clear hK K
        (try simp only [Act.put, List.setIfInBounds_toArray, List.set_cons_zero, List.set_cons_succ])
        refine wpAnyH_take (i := 19) (v := ?_) rfl (by kernel_rfl) (by kernel_rfl) (by kernel_rfl) (fun _ _ _ h => h) (Or.inl ⟨by kernel_rfl, ?_⟩) (by assumption) ?_
        rotate_left
        · ((intro w hSw; (try dsimp only at hSw); go_simp) <;> with_reducible rfl)
        (try simp only [Act.put, List.setIfInBounds_toArray, List.set_cons_zero, List.set_cons_succ])
        refine wpAnyH_take (i := 20) (v := ?_) rfl (by kernel_rfl) (by kernel_rfl) (by kernel_rfl) (fun _ _ _ h => h) (Or.inl ⟨by kernel_rfl, ?_⟩) (by assumption) ?_
        rotate_left
        · ((intro w hSw; (try dsimp only at hSw); go_simp) <;> with_reducible rfl)
        (try simp only [Act.put, List.setIfInBounds_toArray, List.set_cons_zero, List.set_cons_succ])
        refine wpAnyH_take (i := 21) (v := ?_) rfl (by kernel_rfl) (by kernel_rfl) (by kernel_rfl) (fun _ _ _ h => h) (Or.inl ⟨by kernel_rfl, ?_⟩) (by assumption) ?_
        rotate_left
        · ((intro w hSw; (try dsimp only at hSw); go_simp) <;> with_reducible rfl)
        (try simp only [Act.put, List.setIfInBounds_toArray, List.set_cons_zero, List.set_cons_succ])
        refine wpAnyH_take (i := 22) (v := ?_) rfl (by kernel_rfl) (by kernel_rfl) (by kernel_rfl) (fun _ _ _ h => h) (Or.inl ⟨by kernel_rfl, ?_⟩) (by assumption) ?_
        rotate_left
        · ((intro w hSw; (try dsimp only at hSw); go_simp) <;> with_reducible rfl)
        (try simp only [Act.put, List.setIfInBounds_toArray, List.set_cons_zero, List.set_cons_succ])
        refine wpAnyH_take (i := 23) (v := ?_) rfl (by kernel_rfl) (by kernel_rfl) (by kernel_rfl) (fun _ _ _ h => h) (Or.inl ⟨by kernel_rfl, ?_⟩) (by assumption) ?_
        rotate_left
        · ((intro w hSw; (try dsimp only at hSw); go_simp) <;> with_reducible rfl)
        (try simp only [Act.put, List.setIfInBounds_toArray, List.set_cons_zero, List.set_cons_succ])
        refine wpAnyH_take (i := 24) (v := ?_) rfl (by kernel_rfl) (by kernel_rfl) (by kernel_rfl) (fun _ _ _ h => h) (Or.inl ⟨by kernel_rfl, ?_⟩) (by assumption) ?_
        rotate_left
        · ((intro w hSw; (try dsimp only at hSw); go_simp) <;> with_reducible rfl)
        (try simp only [Act.put, List.setIfInBounds_toArray, List.set_cons_zero, List.set_cons_succ])
        refine wpAnyH_take (i := 25) (v := ?_) rfl (by kernel_rfl) (by kernel_rfl) (by kernel_rfl) (fun _ _ _ h => h) (Or.inl ⟨by kernel_rfl, ?_⟩) (by assumption) ?_
        rotate_left
        · ((intro w hSw; (try dsimp only at hSw); go_simp) <;> with_reducible rfl)
        (try simp only [Act.put, List.setIfInBounds_toArray, List.set_cons_zero, List.set_cons_succ])
        refine wpAnyH_take (i := 26) (v := ?_) rfl (by kernel_rfl) (by kernel_rfl) (by kernel_rfl) (fun _ _ _ h => h) (Or.inl ⟨by kernel_rfl, ?_⟩) (by assumption) ?_
        rotate_left
        · ((intro w hSw; (try dsimp only at hSw); go_simp) <;> with_reducible rfl)
        (try simp only [Act.put, List.setIfInBounds_toArray, List.set_cons_zero, List.set_cons_succ])
        refine wpAnyH_ready (rs := [27]) (by kernel_rfl) (by simp) ?_
        refine AllReadyH.cons rfl (fun K hK => ?_) ?_
        rotate_left
        exact AllReadyH.nil
        go_simp
        (go_at_call 21; refine (t0 _ _ (by first | exact Below.refl _ _ | exact below_drew _) _ _ Ld _ _ z0 q0).mono ?_; rintro e w5 ⟨a6, c6, rfl, Ll, b6⟩; (try replace b6 := undrew b6); replace Ev := Lib.hid ((b6.block _ (Array.getElem?_eq_some_iff.1 Ev.out).1).trans Ev.out); replace Ek := Lib.hid ((b6.block _ (Array.getElem?_eq_some_iff.1 Ek.out).1).trans Ek.out); replace Ed := Lib.hid ((b6.block _ (Array.getElem?_eq_some_iff.1 Ed.out).1).trans Ed.out); replace Eb := Lib.hid ((b6.block _ (Array.getElem?_eq_some_iff.1 Eb.out).1).trans Eb.out); (try replace Ld := Ld.below b6); replace B := Below.then B b6; clear y0 y1 y2 y3 y4 y5 y6 y7 y8 y9 y10 y11 yf Xy0 Xy1 Xy2 Xy3 Xy4 Xy5 Xy6 Xy7 Xy8 Xy9 Xy10 Xy11 q0 qf Xq0 z0 z1 z2 z3 z4 z5 z6 zf Xz0 Xz1 Xz2 Xz3 Xz4 Xz5 Xz6 r0 r1 r2 r3 r4 r5 r6 rf Xr0 Xr1 Xr2 Xr3 Xr4 Xr5 Xr6; obtain ⟨y0, y1, y2, y3, y4, y5, y6, y7, y8, y9, y10, y11, yf⟩ := cells12 Ev.out; have Xy0 := fun o => Lib.cell?_alloc_some o y0; have Xy1 := fun o => Lib.cell?_alloc_some o y1; have Xy2 := fun o => Lib.cell?_alloc_some o y2; have Xy3 := fun o => Lib.cell?_alloc_some o y3; have Xy4 := fun o => Lib.cell?_alloc_some o y4; have Xy5 := fun o => Lib.cell?_alloc_some o y5; have Xy6 := fun o => Lib.cell?_alloc_some o y6; have Xy7 := fun o => Lib.cell?_alloc_some o y7; have Xy8 := fun o => Lib.cell?_alloc_some o y8; have Xy9 := fun o => Lib.cell?_alloc_some o y9; have Xy10 := fun o => Lib.cell?_alloc_some o y10; have Xy11 := fun o => Lib.cell?_alloc_some o y11; obtain ⟨q0, qf⟩ := cells1 Ek.out; have Xq0 := fun o => Lib.cell?_alloc_some o q0; obtain ⟨z0, z1, z2, z3, z4, z5, z6, zf⟩ := cells7 Ed.out; have Xz0 := fun o => Lib.cell?_alloc_some o z0; have Xz1 := fun o => Lib.cell?_alloc_some o z1; have Xz2 := fun o => Lib.cell?_alloc_some o z2; have Xz3 := fun o => Lib.cell?_alloc_some o z3; have Xz4 := fun o => Lib.cell?_alloc_some o z4; have Xz5 := fun o => Lib.cell?_alloc_some o z5; have Xz6 := fun o => Lib.cell?_alloc_some o z6; obtain ⟨r0, r1, r2, r3, r4, r5, r6, rf⟩ := cells7 Eb.out; have Xr0 := fun o => Lib.cell?_alloc_some o r0; have Xr1 := fun o => Lib.cell?_alloc_some o r1; have Xr2 := fun o => Lib.cell?_alloc_some o r2; have Xr3 := fun o => Lib.cell?_alloc_some o r3; have Xr4 := fun o => Lib.cell?_alloc_some o r4; have Xr5 := fun o => Lib.cell?_alloc_some o r5; have Xr6 := fun o => Lib.cell?_alloc_some o r6; clear b6)
        clear hHeld
        refine hK.out _ _ ?_ (fun hHeld => ?_)
        · exact ⟨y0, y1, y2, y3, y4, y5, y6, y7, y8, y9, y10, y11, q0, z0, z1, z2, z3, z4, z5, z6, r0, r1, r2, r3, r4, r5, r6⟩
        clear hK K
        (try simp only [Act.put, List.setIfInBounds_toArray, List.set_cons_zero, List.set_cons_succ])
        refine wpAnyH_ready (rs := [28]) (by kernel_rfl) (by simp) ?_
        refine AllReadyH.cons rfl (fun K hK => ?_) ?_
        rotate_left
        exact AllReadyH.nil
        go_simp
        (go_at_call 17; refine (h7 _ _ (by first | exact Below.refl _ _ | exact below_drew _) _ _ _ _ Ld Ll).mono ?_; rintro e w6 ⟨rfl, b6⟩; (try replace b6 := undrew b6); clear h7 Ll; replace Ev := Lib.hid ((b6.block _ (Array.getElem?_eq_some_iff.1 Ev.out).1).trans Ev.out); replace Ek := Lib.hid ((b6.block _ (Array.getElem?_eq_some_iff.1 Ek.out).1).trans Ek.out); replace Ed := Lib.hid ((b6.block _ (Array.getElem?_eq_some_iff.1 Ed.out).1).trans Ed.out); replace Eb := Lib.hid ((b6.block _ (Array.getElem?_eq_some_iff.1 Eb.out).1).trans Eb.out); (try replace Ld := Ld.below b6); replace B := Below.then B b6; clear y0 y1 y2 y3 y4 y5 y6 y7 y8 y9 y10 y11 yf Xy0 Xy1 Xy2 Xy3 Xy4 Xy5 Xy6 Xy7 Xy8 Xy9 Xy10 Xy11 q0 qf Xq0 z0 z1 z2 z3 z4 z5 z6 zf Xz0 Xz1 Xz2 Xz3 Xz4 Xz5 Xz6 r0 r1 r2 r3 r4 r5 r6 rf Xr0 Xr1 Xr2 Xr3 Xr4 Xr5 Xr6; obtain ⟨y0, y1, y2, y3, y4, y5, y6, y7, y8, y9, y10, y11, yf⟩ := cells12 Ev.out; have Xy0 := fun o => Lib.cell?_alloc_some o y0; have Xy1 := fun o => Lib.cell?_alloc_some o y1; have Xy2 := fun o => Lib.cell?_alloc_some o y2; have Xy3 := fun o => Lib.cell?_alloc_some o y3; have Xy4 := fun o => Lib.cell?_alloc_some o y4; have Xy5 := fun o => Lib.cell?_alloc_some o y5; have Xy6 := fun o => Lib.cell?_alloc_some o y6; have Xy7 := fun o => Lib.cell?_alloc_some o y7; have Xy8 := fun o => Lib.cell?_alloc_some o y8; have Xy9 := fun o => Lib.cell?_alloc_some o y9; have Xy10 := fun o => Lib.cell?_alloc_some o y10; have Xy11 := fun o => Lib.cell?_alloc_some o y11; obtain ⟨q0, qf⟩ := cells1 Ek.out; have Xq0 := fun o => Lib.cell?_alloc_some o q0; obtain ⟨z0, z1, z2, z3, z4, z5, z6, zf⟩ := cells7 Ed.out; have Xz0 := fun o => Lib.cell?_alloc_some o z0; have Xz1 := fun o => Lib.cell?_alloc_some o z1; have Xz2 := fun o => Lib.cell?_alloc_some o z2; have Xz3 := fun o => Lib.cell?_alloc_some o z3; have Xz4 := fun o => Lib.cell?_alloc_some o z4; have Xz5 := fun o => Lib.cell?_alloc_some o z5; have Xz6 := fun o => Lib.cell?_alloc_some o z6; obtain ⟨r0, r1, r2, r3, r4, r5, r6, rf⟩ := cells7 Eb.out; have Xr0 := fun o => Lib.cell?_alloc_some o r0; have Xr1 := fun o => Lib.cell?_alloc_some o r1; have Xr2 := fun o => Lib.cell?_alloc_some o r2; have Xr3 := fun o => Lib.cell?_alloc_some o r3; have Xr4 := fun o => Lib.cell?_alloc_some o r4; have Xr5 := fun o => Lib.cell?_alloc_some o r5; have Xr6 := fun o => Lib.cell?_alloc_some o r6; clear b6)
        clear hHeld
        refine hK.out _ _ ?_ (fun hHeld => ?_)
        · exact ⟨y0, y1, y2, y3, y4, y5, y6, y7, y8, y9, y10, y11, q0, z0, z1, z2, z3, z4, z5, z6, r0, r1, r2, r3, r4, r5, r6⟩
        clear hK K
        (try simp only [Act.put, List.setIfInBounds_toArray, List.set_cons_zero, List.set_cons_succ])
        refine wpAnyH_take (i := 29) (v := ?_) rfl (by kernel_rfl) (by kernel_rfl) (by kernel_rfl) (fun _ _ _ h => h) (Or.inl ⟨by kernel_rfl, ?_⟩) (by assumption) ?_
        rotate_left
        · ((intro w hSw; (try dsimp only at hSw); go_simp) <;> with_reducible rfl)
        (try simp only [Act.put, List.setIfInBounds_toArray, List.set_cons_zero, List.set_cons_succ])
        refine wpAnyH_take (i := 30) (v := ?_) rfl (by kernel_rfl) (by kernel_rfl) (by kernel_rfl) (fun _ _ _ h => h) (Or.inl ⟨by kernel_rfl, ?_⟩) (by assumption) ?_
        rotate_left
        · ((intro w hSw; (try dsimp only at hSw); go_simp) <;> with_reducible rfl)
        (try simp only [Act.put, List.setIfInBounds_toArray, List.set_cons_zero, List.set_cons_succ])
        refine wpAnyH_take (i := 31) (v := ?_) rfl (by kernel_rfl) (by kernel_rfl) (by kernel_rfl) (fun _ _ _ h => h) (Or.inl ⟨by kernel_rfl, ?_⟩) (by assumption) ?_
        rotate_left
        · ((intro w hSw; (try dsimp only at hSw); go_simp) <;> with_reducible rfl)
        (try simp only [Act.put, List.setIfInBounds_toArray, List.set_cons_zero, List.set_cons_succ])
        refine wpAnyH_take (i := 32) (v := ?_) rfl (by kernel_rfl) (by kernel_rfl) (by kernel_rfl) (fun _ _ _ h => h) (Or.inl ⟨by kernel_rfl, ?_⟩) (by assumption) ?_
        rotate_left
        · ((intro w hSw; (try dsimp only at hSw); go_simp) <;> with_reducible rfl)
        (try simp only [Act.put, List.setIfInBounds_toArray, List.set_cons_zero, List.set_cons_succ])
        refine wpAnyH_take (i := 33) (v := ?_) rfl (by kernel_rfl) (by kernel_rfl) (by kernel_rfl) (fun _ _ _ h => h) (Or.inl ⟨by kernel_rfl, ?_⟩) (by assumption) ?_
        rotate_left
        · ((intro w hSw; (try dsimp only at hSw); go_simp) <;> with_reducible rfl)
        (try simp only [Act.put, List.setIfInBounds_toArray, List.set_cons_zero, List.set_cons_succ])
        refine wpAnyH_take (i := 34) (v := ?_) rfl (by kernel_rfl) (by kernel_rfl) (by kernel_rfl) (fun _ _ _ h => h) (Or.inl ⟨by kernel_rfl, ?_⟩) (by assumption) ?_
        rotate_left
        · ((intro w hSw; (try dsimp only at hSw); go_simp) <;> with_reducible rfl)
        (try simp only [Act.put, List.setIfInBounds_toArray, List.set_cons_zero, List.set_cons_succ])
        refine wpAnyH_ready (rs := [35]) (by kernel_rfl) (by simp) ?_
        refine AllReadyH.cons rfl (fun K hK => ?_) ?_
        rotate_left
        exact AllReadyH.nil
        go_simp
        (go_at_call 21; refine (t1 _ _ (by first | exact Below.refl _ _ | exact below_drew _) _ _ Ld _ _ z0 q0).mono ?_; rintro e w5 ⟨a6, c6, rfl, Ll, b6⟩; (try replace b6 := undrew b6); replace Ev := Lib.hid ((b6.block _ (Array.getElem?_eq_some_iff.1 Ev.out).1).trans Ev.out); replace Ek := Lib.hid ((b6.block _ (Array.getElem?_eq_some_iff.1 Ek.out).1).trans Ek.out); replace Ed := Lib.hid ((b6.block _ (Array.getElem?_eq_some_iff.1 Ed.out).1).trans Ed.out); replace Eb := Lib.hid ((b6.block _ (Array.getElem?_eq_some_iff.1 Eb.out).1).trans Eb.out); (try replace Ld := Ld.below b6); replace B := Below.then B b6; clear y0 y1 y2 y3 y4 y5 y6 y7 y8 y9 y10 y11 yf Xy0 Xy1 Xy2 Xy3 Xy4 Xy5 Xy6 Xy7 Xy8 Xy9 Xy10 Xy11 q0 qf Xq0 z0 z1 z2 z3 z4 z5 z6 zf Xz0 Xz1 Xz2 Xz3 Xz4 Xz5 Xz6 r0 r1 r2 r3 r4 r5 r6 rf Xr0 Xr1 Xr2 Xr3 Xr4 Xr5 Xr6; obtain ⟨y0, y1, y2, y3, y4, y5, y6, y7, y8, y9, y10, y11, yf⟩ := cells12 Ev.out; have Xy0 := fun o => Lib.cell?_alloc_some o y0; have Xy1 := fun o => Lib.cell?_alloc_some o y1; have Xy2 := fun o => Lib.cell?_alloc_some o y2; have Xy3 := fun o => Lib.cell?_alloc_some o y3; have Xy4 := fun o => Lib.cell?_alloc_some o y4; have Xy5 := fun o => Lib.cell?_alloc_some o y5; have Xy6 := fun o => Lib.cell?_alloc_some o y6; have Xy7 := fun o => Lib.cell?_alloc_some o y7; have Xy8 := fun o => Lib.cell?_alloc_some o y8; have Xy9 := fun o => Lib.cell?_alloc_some o y9; have Xy10 := fun o => Lib.cell?_alloc_some o y10; have Xy11 := fun o => Lib.cell?_alloc_some o y11; obtain ⟨q0, qf⟩ := cells1 Ek.out; have Xq0 := fun o => Lib.cell?_alloc_some o q0; obtain ⟨z0, z1, z2, z3, z4, z5, z6, zf⟩ := cells7 Ed.out; have Xz0 := fun o => Lib.cell?_alloc_some o z0; have Xz1 := fun o => Lib.cell?_alloc_some o z1; have Xz2 := fun o => Lib.cell?_alloc_some o z2; have Xz3 := fun o => Lib.cell?_alloc_some o z3; have Xz4 := fun o => Lib.cell?_alloc_some o z4; have Xz5 := fun o => Lib.cell?_alloc_some o z5; have Xz6 := fun o => Lib.cell?_alloc_some o z6; obtain ⟨r0, r1, r2, r3, r4, r5, r6, rf⟩ := cells7 Eb.out; have Xr0 := fun o => Lib.cell?_alloc_some o r0; have Xr1 := fun o => Lib.cell?_alloc_some o r1; have Xr2 := fun o => Lib.cell?_alloc_some o r2; have Xr3 := fun o => Lib.cell?_alloc_some o r3; have Xr4 := fun o => Lib.cell?_alloc_some o r4; have Xr5 := fun o => Lib.cell?_alloc_some o r5; have Xr6 := fun o => Lib.cell?_alloc_some o r6; clear b6)
        clear hHeld
        refine hK.out _ _ ?_ (fun hHeld => ?_)
        · exact ⟨y0, y1, y2, y3, y4, y5, y6, y7, y8, y9, y10, y11, q0, z0, z1, z2, z3, z4, z5, z6, r0, r1, r2, r3, r4, r5, r6⟩
        clear hK K
        (try simp only [Act.put, List.setIfInBounds_toArray, List.set_cons_zero, List.set_cons_succ])
        refine wpAnyH_ready (rs := [36]) (by kernel_rfl) (by simp) ?_
        refine AllReadyH.cons rfl (fun K hK => ?_) ?_
        rotate_left
        exact AllReadyH.nil
        go_simp
        (go_at_call 17; refine (h8 _ _ (by first | exact Below.refl _ _ | exact below_drew _) _ _ _ _ Ld Ll).mono ?_; rintro e w6 ⟨rfl, b6⟩; (try replace b6 := undrew b6); clear h8 Ll; replace Ev := Lib.hid ((b6.block _ (Array.getElem?_eq_some_iff.1 Ev.out).1).trans Ev.out); replace Ek := Lib.hid ((b6.block _ (Array.getElem?_eq_some_iff.1 Ek.out).1).trans Ek.out); replace Ed := Lib.hid ((b6.block _ (Array.getElem?_eq_some_iff.1 Ed.out).1).trans Ed.out); replace Eb := Lib.hid ((b6.block _ (Array.getElem?_eq_some_iff.1 Eb.out).1).trans Eb.out); (try replace Ld := Ld.below b6); replace B := Below.then B b6; clear y0 y1 y2 y3 y4 y5 y6 y7 y8 y9 y10 y11 yf Xy0 Xy1 Xy2 Xy3 Xy4 Xy5 Xy6 Xy7 Xy8 Xy9 Xy10 Xy11 q0 qf Xq0 z0 z1 z2 z3 z4 z5 z6 zf Xz0 Xz1 Xz2 Xz3 Xz4 Xz5 Xz6 r0 r1 r2 r3 r4 r5 r6 rf Xr0 Xr1 Xr2 Xr3 Xr4 Xr5 Xr6; obtain ⟨y0, y1, y2, y3, y4, y5, y6, y7, y8, y9, y10, y11, yf⟩ := cells12 Ev.out; have Xy0 := fun o => Lib.cell?_alloc_some o y0; have Xy1 := fun o => Lib.cell?_alloc_some o y1; have Xy2 := fun o => Lib.cell?_alloc_some o y2; have Xy3 := fun o => Lib.cell?_alloc_some o y3; have Xy4 := fun o => Lib.cell?_alloc_some o y4; have Xy5 := fun o => Lib.cell?_alloc_some o y5; have Xy6 := fun o => Lib.cell?_alloc_some o y6; have Xy7 := fun o => Lib.cell?_alloc_some o y7; have Xy8 := fun o => Lib.cell?_alloc_some o y8; have Xy9 := fun o => Lib.cell?_alloc_some o y9; have Xy10 := fun o => Lib.cell?_alloc_some o y10; have Xy11 := fun o => Lib.cell?_alloc_some o y11; obtain ⟨q0, qf⟩ := cells1 Ek.out; have Xq0 := fun o => Lib.cell?_alloc_some o q0; obtain ⟨z0, z1, z2, z3, z4, z5, z6, zf⟩ := cells7 Ed.out; have Xz0 := fun o => Lib.cell?_alloc_some o z0; have Xz1 := fun o => Lib.cell?_alloc_some o z1; have Xz2 := fun o => Lib.cell?_alloc_some o z2; have Xz3 := fun o => Lib.cell?_alloc_some o z3; have Xz4 := fun o => Lib.cell?_alloc_some o z4; have Xz5 := fun o => Lib.cell?_alloc_some o z5; have Xz6 := fun o => Lib.cell?_alloc_some o z6; obtain ⟨r0, r1, r2, r3, r4, r5, r6, rf⟩ := cells7 Eb.out; have Xr0 := fun o => Lib.cell?_alloc_some o r0; have Xr1 := fun o => Lib.cell?_alloc_some o r1; have Xr2 := fun o => Lib.cell?_alloc_some o r2; have Xr3 := fun o => Lib.cell?_alloc_some o r3; have Xr4 := fun o => Lib.cell?_alloc_some o r4; have Xr5 := fun o => Lib.cell?_alloc_some o r5; have Xr6 := fun o => Lib.cell?_alloc_some o r6; clear b6)
        clear hHeld
        refine hK.out _ _ ?_ (fun hHeld => ?_)
        · exact ⟨y0, y1, y2, y3, y4, y5, y6, y7, y8, y9, y10, y11, q0, z0, z1, z2, z3, z4, z5, z6, r0, r1, r2, r3, r4, r5, r6⟩
        clear hK K
        (try simp only [Act.put, List.setIfInBounds_toArray, List.set_cons_zero, List.set_cons_succ])
        refine wpAnyH_take (i := 37) (v := ?_) rfl (by kernel_rfl) (by kernel_rfl) (by kernel_rfl) (fun _ _ _ h => h) (Or.inl ⟨by kernel_rfl, ?_⟩) (by assumption) ?_
        rotate_left
        · ((intro w hSw; (try dsimp only at hSw); go_simp) <;> with_reducible rfl)
        (try simp only [Act.put, List.setIfInBounds_toArray, List.set_cons_zero, List.set_cons_succ])
        refine wpAnyH_take (i := 38) (v := ?_) rfl (by kernel_rfl) (by kernel_rfl) (by kernel_rfl) (fun _ _ _ h => h) (Or.inl ⟨by kernel_rfl, ?_⟩) (by assumption) ?_
        rotate_left
        · ((intro w hSw; (try dsimp only at hSw); go_simp) <;> with_reducible rfl)
        (try simp only [Act.put, List.setIfInBounds_toArray, List.set_cons_zero, List.set_cons_succ])
        refine wpAnyH_take (i := 39) (v := ?_) rfl (by kernel_rfl) (by kernel_rfl) (by kernel_rfl) (fun _ _ _ h => h) (Or.inl ⟨by kernel_rfl, ?_⟩) (by assumption) ?_
        rotate_left
        · ((intro w hSw; (try dsimp only at hSw); go_simp) <;> with_reducible rfl)
        (try simp only [Act.put, List.setIfInBounds_toArray, List.set_cons_zero, List.set_cons_succ])
        refine wpAnyH_take (i := 40) (v := ?_) rfl (by kernel_rfl) (by kernel_rfl) (by kernel_rfl) (fun _ _ _ h => h) (Or.inl ⟨by kernel_rfl, ?_⟩) (by assumption) ?_
        rotate_left
        · ((intro w hSw; (try dsimp only at hSw); go_simp) <;> with_reducible rfl)
        (try simp only [Act.put, List.setIfInBounds_toArray, List.set_cons_zero, List.set_cons_succ])
        refine wpAnyH_take (i := 41) (v := ?_) rfl (by kernel_rfl) (by kernel_rfl) (by kernel_rfl) (fun _ _ _ h => h) (Or.inl ⟨by kernel_rfl, ?_⟩) (by assumption) ?_
        rotate_left
        · ((intro w hSw; (try dsimp only at hSw); go_simp) <;> with_reducible rfl)
        (try simp only [Act.put, List.setIfInBounds_toArray, List.set_cons_zero, List.set_cons_succ])
        refine wpAnyH_take (i := 42) (v := ?_) rfl (by kernel_rfl) (by kernel_rfl) (by kernel_rfl) (fun _ _ _ h => h) (Or.inl ⟨by kernel_rfl, ?_⟩) (by assumption) ?_
        rotate_left
        · ((intro w hSw; (try dsimp only at hSw); go_simp) <;> with_reducible rfl)
        (try simp only [Act.put, List.setIfInBounds_toArray, List.set_cons_zero, List.set_cons_succ])
        refine wpAnyH_take (i := 43) (v := ?_) rfl (by kernel_rfl) (by kernel_rfl) (by kernel_rfl) (fun _ _ _ h => h) (Or.inl ⟨by kernel_rfl, ?_⟩) (by assumption) ?_
        rotate_left
        · ((intro w hSw; (try dsimp only at hSw); go_simp) <;> with_reducible rfl)
        (try simp only [Act.put, List.setIfInBounds_toArray, List.set_cons_zero, List.set_cons_succ])
        refine wpAnyH_take (i := 44) (v := ?_) rfl (by kernel_rfl) (by kernel_rfl) (by kernel_rfl) (fun _ _ _ h => h) (Or.inl ⟨by kernel_rfl, ?_⟩) (by assumption) ?_
        rotate_left
        · ((intro w hSw; (try dsimp only at hSw); go_simp) <;> with_reducible rfl)
        (try simp only [Act.put, List.setIfInBounds_toArray, List.set_cons_zero, List.set_cons_succ])
        refine wpAnyH_take (i := 45) (v := ?_) rfl (by kernel_rfl) (by kernel_rfl) (by kernel_rfl) (fun _ _ _ h => h) (Or.inl ⟨by kernel_rfl, ?_⟩) (by assumption) ?_
        rotate_left
        · ((intro w hSw; (try dsimp only at hSw); go_simp) <;> with_reducible rfl)
        (try simp only [Act.put, List.setIfInBounds_toArray, List.set_cons_zero, List.set_cons_succ])
        refine wpAnyH_take (i := 46) (v := ?_) rfl (by kernel_rfl) (by kernel_rfl) (by kernel_rfl) (fun _ _ _ h => h) (Or.inl ⟨by kernel_rfl, ?_⟩) (by assumption) ?_
        rotate_left
        · ((intro w hSw; (try dsimp only at hSw); go_simp) <;> with_reducible rfl)
        (try simp only [Act.put, List.setIfInBounds_toArray, List.set_cons_zero, List.set_cons_succ])
        refine wpAnyH_take (i := 47) (v := ?_) rfl (by kernel_rfl) (by kernel_rfl) (by kernel_rfl) (fun _ _ _ h => h) (Or.inl ⟨by kernel_rfl, ?_⟩) (by assumption) ?_
        rotate_left
        · ((intro w hSw; (try dsimp only at hSw); go_simp) <;> with_reducible rfl)
        (try simp only [Act.put, List.setIfInBounds_toArray, List.set_cons_zero, List.set_cons_succ])
        refine wpAnyH_take (i := 48) (v := ?_) rfl (by kernel_rfl) (by kernel_rfl) (by kernel_rfl) (fun _ _ _ h => h) (Or.inl ⟨by kernel_rfl, ?_⟩) (by assumption) ?_
        rotate_left
        · ((intro w hSw; (try dsimp only at hSw); go_simp) <;> with_reducible rfl)
        (try simp only [Act.put, List.setIfInBounds_toArray, List.set_cons_zero, List.set_cons_succ])
        refine wpAnyH_take (i := 49) (v := ?_) rfl (by kernel_rfl) (by kernel_rfl) (by kernel_rfl) (fun _ _ _ h => h) (Or.inl ⟨by kernel_rfl, ?_⟩) (by assumption) ?_
        rotate_left
        · ((intro w hSw; (try dsimp only at hSw); go_simp) <;> with_reducible rfl)
        (try simp only [Act.put, List.setIfInBounds_toArray, List.set_cons_zero, List.set_cons_succ])
        refine wpAnyH_take (i := 50) (v := ?_) rfl (by kernel_rfl) (by kernel_rfl) (by kernel_rfl) (fun _ _ _ h => h) (Or.inl ⟨by kernel_rfl, ?_⟩) (by assumption) ?_
        rotate_left
        · ((intro w hSw; (try dsimp only at hSw); go_simp) <;> with_reducible rfl)
        (try simp only [Act.put, List.setIfInBounds_toArray, List.set_cons_zero, List.set_cons_succ])
        refine wpAnyH_take (i := 51) (v := ?_) rfl (by kernel_rfl) (by kernel_rfl) (by kernel_rfl) (fun _ _ _ h => h) (Or.inl ⟨by kernel_rfl, ?_⟩) (by assumption) ?_
        rotate_left
        · ((intro w hSw; (try dsimp only at hSw); go_simp) <;> with_reducible rfl)
        (try simp only [Act.put, List.setIfInBounds_toArray, List.set_cons_zero, List.set_cons_succ])
        refine wpAnyH_take (i := 52) (v := undef) rfl (by kernel_rfl) (by kernel_rfl) (by kernel_rfl) (fun _ _ _ h => h) (Or.inr ⟨by kernel_rfl, rfl⟩) (by assumption) ?_
        (try simp only [Act.put, List.setIfInBounds_toArray, List.set_cons_zero, List.set_cons_succ])
        refine wpAnyH_take (i := 53) (v := undef) rfl (by kernel_rfl) (by kernel_rfl) (by kernel_rfl) (fun _ _ _ h => h) (Or.inr ⟨by kernel_rfl, rfl⟩) (by assumption) ?_
        (try simp only [Act.put, List.setIfInBounds_toArray, List.set_cons_zero, List.set_cons_succ])
        refine wpAnyH_take (i := 54) (v := undef) rfl (by kernel_rfl) (by kernel_rfl) (by kernel_rfl) (fun _ _ _ h => h) (Or.inr ⟨by kernel_rfl, rfl⟩) (by assumption) ?_
        (try simp only [Act.put, List.setIfInBounds_toArray, List.set_cons_zero, List.set_cons_succ])
        refine wpAnyH_take (i := 55) (v := undef) rfl (by kernel_rfl) (by kernel_rfl) (by kernel_rfl) (fun _ _ _ h => h) (Or.inr ⟨by kernel_rfl, rfl⟩) (by assumption) ?_
        (try simp only [Act.put, List.setIfInBounds_toArray, List.set_cons_zero, List.set_cons_succ])
        refine wpAnyH_take (i := 56) (v := undef) rfl (by kernel_rfl) (by kernel_rfl) (by kernel_rfl) (fun _ _ _ h => h) (Or.inr ⟨by kernel_rfl, rfl⟩) (by assumption) ?_
        (try simp only [Act.put, List.setIfInBounds_toArray, List.set_cons_zero, List.set_cons_succ])
        refine wpAnyH_take (i := 57) (v := undef) rfl (by kernel_rfl) (by kernel_rfl) (by kernel_rfl) (fun _ _ _ h => h) (Or.inr ⟨by kernel_rfl, rfl⟩) (by assumption) ?_
        (try simp only [Act.put, List.setIfInBounds_toArray, List.set_cons_zero, List.set_cons_succ])
        refine wpAnyH_take (i := 58) (v := undef) rfl (by kernel_rfl) (by kernel_rfl) (by kernel_rfl) (fun _ _ _ h => h) (Or.inr ⟨by kernel_rfl, rfl⟩) (by assumption) ?_
        (try simp only [Act.put, List.setIfInBounds_toArray, List.set_cons_zero, List.set_cons_succ])
        refine wpAnyH_take (i := 59) (v := ?_) rfl (by kernel_rfl) (by kernel_rfl) (by kernel_rfl) (fun _ _ _ h => h) (Or.inl ⟨by kernel_rfl, ?_⟩) (by assumption) ?_
        rotate_left
        · ((intro w hSw; (try dsimp only at hSw); go_simp) <;> with_reducible rfl)
        (try simp only [Act.put, List.setIfInBounds_toArray, List.set_cons_zero, List.set_cons_succ])
        refine wpAnyH_take (i := 60) (v := ?_) rfl (by kernel_rfl) (by kernel_rfl) (by kernel_rfl) (fun _ _ _ h => h) (Or.inl ⟨by kernel_rfl, ?_⟩) (by assumption) ?_
        rotate_left
        · ((intro w hSw; (try dsimp only at hSw); go_simp) <;> with_reducible rfl)
        (try simp only [Act.put, List.setIfInBounds_toArray, List.set_cons_zero, List.set_cons_succ])
        refine wpAnyH_take (i := 61) (v := ?_) rfl (by kernel_rfl) (by kernel_rfl) (by kernel_rfl) (fun _ _ _ h => h) (Or.inl ⟨by kernel_rfl, ?_⟩) (by assumption) ?_
        rotate_left
        · ((intro w hSw; (try dsimp only at hSw); go_simp) <;> with_reducible rfl)
        (try simp only [Act.put, List.setIfInBounds_toArray, List.set_cons_zero, List.set_cons_succ])
        refine wpAnyH_done (by kernel_rfl) ?_ _
        go_wp2
        go_ret
        rename_i x1 d1 f1 x0 d0 f0
        have e1 := Option.some.inj (show some _ = some d1 from f1)
        have e0 := Option.some.inj (show some _ = some d0 from f0)
        subst e1 e0
        exact ⟨by kernel_rfl, B⟩
      · have qn : Hid (may (calm ld) l2 = false) := by
          show _ = _
          rw [may_calm, ← Hs.out.2.2]
          exact decide_eq_false (fun e => set_ne hkd x1 (e.trans G0.out.symm))
        have qm : Hid (may sb l2 = false) := by
          show _ = _
          rw [← HB.out, may_b hkd, ← Hs.out.2.2]
          rw [decide_eq_false (fun e => set_ne hkd x1 (e.trans G0.out.symm)), decide_eq_false (set_ne hkd x2)]
          rfl
        have h9 := fun W W' (u : Below W.heap.size W W') a c b kap (p : Stands W a n c (calm ld)) (r : Lv W b n kap l2) => Any9.may_m (p.below u) (r.below u) (by omega) qn
        have h10 := fun W W' (u : Below W.heap.size W W') a c b kap (p : Stands W a n c (calm ld)) (r : Lv W b n kap l2) => Any9.may_m (s := sb) ⟨p.1, by rw [hsb.out]; exact p.2.below u⟩ (r.below u) (by omega) qm
        unfold stv vv at *
        go_enter Try.func5, Try.ntmps5
        go_wp2_with (first | (go_at_call 9; refine (hal _ _).mono ?_; rintro e w1 ⟨rfl, b5⟩; clear hal; obtain ⟨Es, Ev, b6⟩ := alloc2_then b5; clear b5; replace Es := Lib.hid Es; replace Ev := Lib.hid Ev; replace La := La.below b6; have B := b6; obtain ⟨x0, x1, x2, x3, x4, x5, x6, xf⟩ := cells7 Es.out; have Xx0 := fun o => Lib.cell?_alloc_some o x0; have Xx1 := fun o => Lib.cell?_alloc_some o x1; have Xx2 := fun o => Lib.cell?_alloc_some o x2; have Xx3 := fun o => Lib.cell?_alloc_some o x3; have Xx4 := fun o => Lib.cell?_alloc_some o x4; have Xx5 := fun o => Lib.cell?_alloc_some o x5; have Xx6 := fun o => Lib.cell?_alloc_some o x6; obtain ⟨y0, y1, y2, y3, y4, y5, y6, y7, y8, y9, y10, y11, yf⟩ := cells12 Ev.out; have Xy0 := fun o => Lib.cell?_alloc_some o y0; have Xy1 := fun o => Lib.cell?_alloc_some o y1; have Xy2 := fun o => Lib.cell?_alloc_some o y2; have Xy3 := fun o => Lib.cell?_alloc_some o y3; have Xy4 := fun o => Lib.cell?_alloc_some o y4; have Xy5 := fun o => Lib.cell?_alloc_some o y5; have Xy6 := fun o => Lib.cell?_alloc_some o y6; have Xy7 := fun o => Lib.cell?_alloc_some o y7; have Xy8 := fun o => Lib.cell?_alloc_some o y8; have Xy9 := fun o => Lib.cell?_alloc_some o y9; have Xy10 := fun o => Lib.cell?_alloc_some o y10; have Xy11 := fun o => Lib.cell?_alloc_some o y11; clear b6) | (go_at_call 13; refine (h3 _ (La.below (alloc1_below _ _))).mono ?_; rintro e w2 ⟨a5, n5, c5, rfl, Ld, b5⟩; clear h3 La; obtain rfl : n = n5 := (Ld.2.len.symm.trans hdl.out).symm; obtain ⟨Ek, b6⟩ := alloc1_then b5; clear b5; replace Ek := Lib.hid Ek; replace Ev := Lib.hid ((b6.block _ (Array.getElem?_eq_some_iff.1 Ev.out).1).trans Ev.out); replace B := Below.then B b6; clear x0 x1 x2 x3 x4 x5 x6 xf Xx0 Xx1 Xx2 Xx3 Xx4 Xx5 Xx6 y0 y1 y2 y3 y4 y5 y6 y7 y8 y9 y10 y11 yf Xy0 Xy1 Xy2 Xy3 Xy4 Xy5 Xy6 Xy7 Xy8 Xy9 Xy10 Xy11; obtain ⟨y0, y1, y2, y3, y4, y5, y6, y7, y8, y9, y10, y11, yf⟩ := cells12 Ev.out; have Xy0 := fun o => Lib.cell?_alloc_some o y0; have Xy1 := fun o => Lib.cell?_alloc_some o y1; have Xy2 := fun o => Lib.cell?_alloc_some o y2; have Xy3 := fun o => Lib.cell?_alloc_some o y3; have Xy4 := fun o => Lib.cell?_alloc_some o y4; have Xy5 := fun o => Lib.cell?_alloc_some o y5; have Xy6 := fun o => Lib.cell?_alloc_some o y6; have Xy7 := fun o => Lib.cell?_alloc_some o y7; have Xy8 := fun o => Lib.cell?_alloc_some o y8; have Xy9 := fun o => Lib.cell?_alloc_some o y9; have Xy10 := fun o => Lib.cell?_alloc_some o y10; have Xy11 := fun o => Lib.cell?_alloc_some o y11; obtain ⟨q0, qf⟩ := cells1 Ek.out; have Xq0 := fun o => Lib.cell?_alloc_some o q0; clear b6 Es) | (go_at_call 15; refine (h5 _ _ _ (Ld.below (alloc1_below _ _))).mono ?_; rintro e w3 ⟨rfl, _, b5⟩; clear h5; obtain ⟨Ed, b6⟩ := alloc1_then b5; clear b5; replace Ed := Lib.hid Ed; replace Ev := Lib.hid ((b6.block _ (Array.getElem?_eq_some_iff.1 Ev.out).1).trans Ev.out); replace Ek := Lib.hid ((b6.block _ (Array.getElem?_eq_some_iff.1 Ek.out).1).trans Ek.out); replace Ld := Ld.below b6; replace B := Below.then B b6; clear y0 y1 y2 y3 y4 y5 y6 y7 y8 y9 y10 y11 yf Xy0 Xy1 Xy2 Xy3 Xy4 Xy5 Xy6 Xy7 Xy8 Xy9 Xy10 Xy11 q0 qf Xq0; obtain ⟨y0, y1, y2, y3, y4, y5, y6, y7, y8, y9, y10, y11, yf⟩ := cells12 Ev.out; have Xy0 := fun o => Lib.cell?_alloc_some o y0; have Xy1 := fun o => Lib.cell?_alloc_some o y1; have Xy2 := fun o => Lib.cell?_alloc_some o y2; have Xy3 := fun o => Lib.cell?_alloc_some o y3; have Xy4 := fun o => Lib.cell?_alloc_some o y4; have Xy5 := fun o => Lib.cell?_alloc_some o y5; have Xy6 := fun o => Lib.cell?_alloc_some o y6; have Xy7 := fun o => Lib.cell?_alloc_some o y7; have Xy8 := fun o => Lib.cell?_alloc_some o y8; have Xy9 := fun o => Lib.cell?_alloc_some o y9; have Xy10 := fun o => Lib.cell?_alloc_some o y10; have Xy11 := fun o => Lib.cell?_alloc_some o y11; obtain ⟨q0, qf⟩ := cells1 Ek.out; have Xq0 := fun o => Lib.cell?_alloc_some o q0; obtain ⟨z0, z1, z2, z3, z4, z5, z6, zf⟩ := cells7 Ed.out; have Xz0 := fun o => Lib.cell?_alloc_some o z0; have Xz1 := fun o => Lib.cell?_alloc_some o z1; have Xz2 := fun o => Lib.cell?_alloc_some o z2; have Xz3 := fun o => Lib.cell?_alloc_some o z3; have Xz4 := fun o => Lib.cell?_alloc_some o z4; have Xz5 := fun o => Lib.cell?_alloc_some o z5; have Xz6 := fun o => Lib.cell?_alloc_some o z6; clear b6))
        have b6 := alloc1_below w3 (.cells #[.slice a5 n c5, .bool sb.going, .int .i64 sb.at_, .int .u32 sb.next.a, .int .u32 sb.next.b, .int .u32 sb.next.c, .int .u32 sb.next.d] 28)
        have Eb := Lib.hid (heap_alloc_new w3 (.cells #[.slice a5 n c5, .bool sb.going, .int .i64 sb.at_, .int .u32 sb.next.a, .int .u32 sb.next.b, .int .u32 sb.next.c, .int .u32 sb.next.d] 28))
        generalize w3.alloc (.cells #[.slice a5 n c5, .bool sb.going, .int .i64 sb.at_, .int .u32 sb.next.a, .int .u32 sb.next.b, .int .u32 sb.next.c, .int .u32 sb.next.d] 28) = wB at *
        replace Ev := Lib.hid ((b6.block _ (Array.getElem?_eq_some_iff.1 Ev.out).1).trans Ev.out); replace Ek := Lib.hid ((b6.block _ (Array.getElem?_eq_some_iff.1 Ek.out).1).trans Ek.out); replace Ed := Lib.hid ((b6.block _ (Array.getElem?_eq_some_iff.1 Ed.out).1).trans Ed.out); replace Ld := Ld.below b6; replace B := Below.then B b6; clear y0 y1 y2 y3 y4 y5 y6 y7 y8 y9 y10 y11 yf Xy0 Xy1 Xy2 Xy3 Xy4 Xy5 Xy6 Xy7 Xy8 Xy9 Xy10 Xy11 q0 qf Xq0 z0 z1 z2 z3 z4 z5 z6 zf Xz0 Xz1 Xz2 Xz3 Xz4 Xz5 Xz6; 
        obtain ⟨y0, y1, y2, y3, y4, y5, y6, y7, y8, y9, y10, y11, yf⟩ := cells12 Ev.out; have Xy0 := fun o => Lib.cell?_alloc_some o y0; have Xy1 := fun o => Lib.cell?_alloc_some o y1; have Xy2 := fun o => Lib.cell?_alloc_some o y2; have Xy3 := fun o => Lib.cell?_alloc_some o y3; have Xy4 := fun o => Lib.cell?_alloc_some o y4; have Xy5 := fun o => Lib.cell?_alloc_some o y5; have Xy6 := fun o => Lib.cell?_alloc_some o y6; have Xy7 := fun o => Lib.cell?_alloc_some o y7; have Xy8 := fun o => Lib.cell?_alloc_some o y8; have Xy9 := fun o => Lib.cell?_alloc_some o y9; have Xy10 := fun o => Lib.cell?_alloc_some o y10; have Xy11 := fun o => Lib.cell?_alloc_some o y11; obtain ⟨q0, qf⟩ := cells1 Ek.out; have Xq0 := fun o => Lib.cell?_alloc_some o q0; obtain ⟨z0, z1, z2, z3, z4, z5, z6, zf⟩ := cells7 Ed.out; have Xz0 := fun o => Lib.cell?_alloc_some o z0; have Xz1 := fun o => Lib.cell?_alloc_some o z1; have Xz2 := fun o => Lib.cell?_alloc_some o z2; have Xz3 := fun o => Lib.cell?_alloc_some o z3; have Xz4 := fun o => Lib.cell?_alloc_some o z4; have Xz5 := fun o => Lib.cell?_alloc_some o z5; have Xz6 := fun o => Lib.cell?_alloc_some o z6; obtain ⟨r0, r1, r2, r3, r4, r5, r6, rf⟩ := cells7 Eb.out; have Xr0 := fun o => Lib.cell?_alloc_some o r0; have Xr1 := fun o => Lib.cell?_alloc_some o r1; have Xr2 := fun o => Lib.cell?_alloc_some o r2; have Xr3 := fun o => Lib.cell?_alloc_some o r3; have Xr4 := fun o => Lib.cell?_alloc_some o r4; have Xr5 := fun o => Lib.cell?_alloc_some o r5; have Xr6 := fun o => Lib.cell?_alloc_some o r6
        clear b6
        refine wp_region_held_drew (S := (fun W => W.cell? ⟨w.heap.size + 1, 0, none⟩ = some (.int .u32 v0.a) ∧ W.cell? ⟨w.heap.size + 1, 1, none⟩ = some (.int .u32 v0.b) ∧ W.cell? ⟨w.heap.size + 1, 2, none⟩ = some (.int .u32 v0.c) ∧ W.cell? ⟨w.heap.size + 1, 3, none⟩ = some (.int .u32 v0.d) ∧ W.cell? ⟨w.heap.size + 1, 4, none⟩ = some (.int .u32 v1.a) ∧ W.cell? ⟨w.heap.size + 1, 5, none⟩ = some (.int .u32 v1.b) ∧ W.cell? ⟨w.heap.size + 1, 6, none⟩ = some (.int .u32 v1.c) ∧ W.cell? ⟨w.heap.size + 1, 7, none⟩ = some (.int .u32 v1.d) ∧ W.cell? ⟨w.heap.size + 1, 8, none⟩ = some (.int .u32 v2.a) ∧ W.cell? ⟨w.heap.size + 1, 9, none⟩ = some (.int .u32 v2.b) ∧ W.cell? ⟨w.heap.size + 1, 10, none⟩ = some (.int .u32 v2.c) ∧ W.cell? ⟨w.heap.size + 1, 11, none⟩ = some (.int .u32 v2.d) ∧ W.cell? ⟨w1.heap.size, 0, none⟩ = some (.int .i64 k) ∧ W.cell? ⟨w2.heap.size, 0, none⟩ = some (.slice a5 n c5) ∧ W.cell? ⟨w2.heap.size, 1, none⟩ = some (.bool (calm ld).going) ∧ W.cell? ⟨w2.heap.size, 2, none⟩ = some (.int .i64 (calm ld).at_) ∧ W.cell? ⟨w2.heap.size, 3, none⟩ = some (.int .u32 (calm ld).next.a) ∧ W.cell? ⟨w2.heap.size, 4, none⟩ = some (.int .u32 (calm ld).next.b) ∧ W.cell? ⟨w2.heap.size, 5, none⟩ = some (.int .u32 (calm ld).next.c) ∧ W.cell? ⟨w2.heap.size, 6, none⟩ = some (.int .u32 (calm ld).next.d) ∧ W.cell? ⟨w3.heap.size, 0, none⟩ = some (.slice a5 n c5) ∧ W.cell? ⟨w3.heap.size, 1, none⟩ = some (.bool sb.going) ∧ W.cell? ⟨w3.heap.size, 2, none⟩ = some (.int .i64 sb.at_) ∧ W.cell? ⟨w3.heap.size, 3, none⟩ = some (.int .u32 sb.next.a) ∧ W.cell? ⟨w3.heap.size, 4, none⟩ = some (.int .u32 sb.next.b) ∧ W.cell? ⟨w3.heap.size, 5, none⟩ = some (.int .u32 sb.next.c) ∧ W.cell? ⟨w3.heap.size, 6, none⟩ = some (.int .u32 sb.next.d))) (by kernel_rfl) ?_ (fun hHeld => ?_)
        · exact ⟨y0, y1, y2, y3, y4, y5, y6, y7, y8, y9, y10, y11, q0, z0, z1, z2, z3, z4, z5, z6, r0, r1, r2, r3, r4, r5, r6⟩
        refine wpAnyH_take (i := 0) (v := ?_) rfl (by kernel_rfl) (by kernel_rfl) (by kernel_rfl) (fun _ _ _ h => h) (Or.inl ⟨by kernel_rfl, ?_⟩) (by assumption) ?_
        rotate_left
        · ((intro w hSw; (try dsimp only at hSw); go_simp) <;> with_reducible rfl)
        (try simp only [Act.put, List.setIfInBounds_toArray, List.set_cons_zero, List.set_cons_succ])
        refine wpAnyH_take (i := 1) (v := ?_) rfl (by kernel_rfl) (by kernel_rfl) (by kernel_rfl) (fun _ _ _ h => h) (Or.inl ⟨by kernel_rfl, ?_⟩) (by assumption) ?_
        rotate_left
        · ((intro w hSw; (try dsimp only at hSw); go_simp) <;> with_reducible rfl)
        (try simp only [Act.put, List.setIfInBounds_toArray, List.set_cons_zero, List.set_cons_succ])
        refine wpAnyH_take (i := 2) (v := ?_) rfl (by kernel_rfl) (by kernel_rfl) (by kernel_rfl) (fun _ _ _ h => h) (Or.inl ⟨by kernel_rfl, ?_⟩) (by assumption) ?_
        rotate_left
        · ((intro w hSw; (try dsimp only at hSw); go_simp) <;> with_reducible rfl)
        (try simp only [Act.put, List.setIfInBounds_toArray, List.set_cons_zero, List.set_cons_succ])
        refine wpAnyH_take (i := 3) (v := ?_) rfl (by kernel_rfl) (by kernel_rfl) (by kernel_rfl) (fun _ _ _ h => h) (Or.inl ⟨by kernel_rfl, ?_⟩) (by assumption) ?_
        rotate_left
        · ((intro w hSw; (try dsimp only at hSw); go_simp) <;> with_reducible rfl)
        (try simp only [Act.put, List.setIfInBounds_toArray, List.set_cons_zero, List.set_cons_succ])
        refine wpAnyH_ready (rs := [4]) (by kernel_rfl) (by simp) ?_
        refine AllReadyH.cons rfl (fun K hK => ?_) ?_
        rotate_left
        exact AllReadyH.nil
        go_simp
        (go_at_call 21; refine (t0 _ _ (by first | exact Below.refl _ _ | exact below_drew _) _ _ Ld _ _ z0 q0).mono ?_; rintro e w5 ⟨a6, c6, rfl, Ll, b6⟩; (try replace b6 := undrew b6); replace Ev := Lib.hid ((b6.block _ (Array.getElem?_eq_some_iff.1 Ev.out).1).trans Ev.out); replace Ek := Lib.hid ((b6.block _ (Array.getElem?_eq_some_iff.1 Ek.out).1).trans Ek.out); replace Ed := Lib.hid ((b6.block _ (Array.getElem?_eq_some_iff.1 Ed.out).1).trans Ed.out); replace Eb := Lib.hid ((b6.block _ (Array.getElem?_eq_some_iff.1 Eb.out).1).trans Eb.out); (try replace Ld := Ld.below b6); replace B := Below.then B b6; clear y0 y1 y2 y3 y4 y5 y6 y7 y8 y9 y10 y11 yf Xy0 Xy1 Xy2 Xy3 Xy4 Xy5 Xy6 Xy7 Xy8 Xy9 Xy10 Xy11 q0 qf Xq0 z0 z1 z2 z3 z4 z5 z6 zf Xz0 Xz1 Xz2 Xz3 Xz4 Xz5 Xz6 r0 r1 r2 r3 r4 r5 r6 rf Xr0 Xr1 Xr2 Xr3 Xr4 Xr5 Xr6; obtain ⟨y0, y1, y2, y3, y4, y5, y6, y7, y8, y9, y10, y11, yf⟩ := cells12 Ev.out; have Xy0 := fun o => Lib.cell?_alloc_some o y0; have Xy1 := fun o => Lib.cell?_alloc_some o y1; have Xy2 := fun o => Lib.cell?_alloc_some o y2; have Xy3 := fun o => Lib.cell?_alloc_some o y3; have Xy4 := fun o => Lib.cell?_alloc_some o y4; have Xy5 := fun o => Lib.cell?_alloc_some o y5; have Xy6 := fun o => Lib.cell?_alloc_some o y6; have Xy7 := fun o => Lib.cell?_alloc_some o y7; have Xy8 := fun o => Lib.cell?_alloc_some o y8; have Xy9 := fun o => Lib.cell?_alloc_some o y9; have Xy10 := fun o => Lib.cell?_alloc_some o y10; have Xy11 := fun o => Lib.cell?_alloc_some o y11; obtain ⟨q0, qf⟩ := cells1 Ek.out; have Xq0 := fun o => Lib.cell?_alloc_some o q0; obtain ⟨z0, z1, z2, z3, z4, z5, z6, zf⟩ := cells7 Ed.out; have Xz0 := fun o => Lib.cell?_alloc_some o z0; have Xz1 := fun o => Lib.cell?_alloc_some o z1; have Xz2 := fun o => Lib.cell?_alloc_some o z2; have Xz3 := fun o => Lib.cell?_alloc_some o z3; have Xz4 := fun o => Lib.cell?_alloc_some o z4; have Xz5 := fun o => Lib.cell?_alloc_some o z5; have Xz6 := fun o => Lib.cell?_alloc_some o z6; obtain ⟨r0, r1, r2, r3, r4, r5, r6, rf⟩ := cells7 Eb.out; have Xr0 := fun o => Lib.cell?_alloc_some o r0; have Xr1 := fun o => Lib.cell?_alloc_some o r1; have Xr2 := fun o => Lib.cell?_alloc_some o r2; have Xr3 := fun o => Lib.cell?_alloc_some o r3; have Xr4 := fun o => Lib.cell?_alloc_some o r4; have Xr5 := fun o => Lib.cell?_alloc_some o r5; have Xr6 := fun o => Lib.cell?_alloc_some o r6; clear b6)
        clear hHeld
        refine hK.out _ _ ?_ (fun hHeld => ?_)
        · exact ⟨y0, y1, y2, y3, y4, y5, y6, y7, y8, y9, y10, y11, q0, z0, z1, z2, z3, z4, z5, z6, r0, r1, r2, r3, r4, r5, r6⟩
        clear hK K
        (try simp only [Act.put, List.setIfInBounds_toArray, List.set_cons_zero, List.set_cons_succ])
        refine wpAnyH_ready (rs := [5]) (by kernel_rfl) (by simp) ?_
        refine AllReadyH.cons rfl (fun K hK => ?_) ?_
        rotate_left
        exact AllReadyH.nil
        go_simp
        (go_at_call 17; refine (h6 _ _ (by first | exact Below.refl _ _ | exact below_drew _) _ _ _ _ Ld Ll).mono ?_; rintro e w6 ⟨rfl, b6⟩; (try replace b6 := undrew b6); clear h6 Ll; replace Ev := Lib.hid ((b6.block _ (Array.getElem?_eq_some_iff.1 Ev.out).1).trans Ev.out); replace Ek := Lib.hid ((b6.block _ (Array.getElem?_eq_some_iff.1 Ek.out).1).trans Ek.out); replace Ed := Lib.hid ((b6.block _ (Array.getElem?_eq_some_iff.1 Ed.out).1).trans Ed.out); replace Eb := Lib.hid ((b6.block _ (Array.getElem?_eq_some_iff.1 Eb.out).1).trans Eb.out); (try replace Ld := Ld.below b6); replace B := Below.then B b6; clear y0 y1 y2 y3 y4 y5 y6 y7 y8 y9 y10 y11 yf Xy0 Xy1 Xy2 Xy3 Xy4 Xy5 Xy6 Xy7 Xy8 Xy9 Xy10 Xy11 q0 qf Xq0 z0 z1 z2 z3 z4 z5 z6 zf Xz0 Xz1 Xz2 Xz3 Xz4 Xz5 Xz6 r0 r1 r2 r3 r4 r5 r6 rf Xr0 Xr1 Xr2 Xr3 Xr4 Xr5 Xr6; obtain ⟨y0, y1, y2, y3, y4, y5, y6, y7, y8, y9, y10, y11, yf⟩ := cells12 Ev.out; have Xy0 := fun o => Lib.cell?_alloc_some o y0; have Xy1 := fun o => Lib.cell?_alloc_some o y1; have Xy2 := fun o => Lib.cell?_alloc_some o y2; have Xy3 := fun o => Lib.cell?_alloc_some o y3; have Xy4 := fun o => Lib.cell?_alloc_some o y4; have Xy5 := fun o => Lib.cell?_alloc_some o y5; have Xy6 := fun o => Lib.cell?_alloc_some o y6; have Xy7 := fun o => Lib.cell?_alloc_some o y7; have Xy8 := fun o => Lib.cell?_alloc_some o y8; have Xy9 := fun o => Lib.cell?_alloc_some o y9; have Xy10 := fun o => Lib.cell?_alloc_some o y10; have Xy11 := fun o => Lib.cell?_alloc_some o y11; obtain ⟨q0, qf⟩ := cells1 Ek.out; have Xq0 := fun o => Lib.cell?_alloc_some o q0; obtain ⟨z0, z1, z2, z3, z4, z5, z6, zf⟩ := cells7 Ed.out; have Xz0 := fun o => Lib.cell?_alloc_some o z0; have Xz1 := fun o => Lib.cell?_alloc_some o z1; have Xz2 := fun o => Lib.cell?_alloc_some o z2; have Xz3 := fun o => Lib.cell?_alloc_some o z3; have Xz4 := fun o => Lib.cell?_alloc_some o z4; have Xz5 := fun o => Lib.cell?_alloc_some o z5; have Xz6 := fun o => Lib.cell?_alloc_some o z6; obtain ⟨r0, r1, r2, r3, r4, r5, r6, rf⟩ := cells7 Eb.out; have Xr0 := fun o => Lib.cell?_alloc_some o r0; have Xr1 := fun o => Lib.cell?_alloc_some o r1; have Xr2 := fun o => Lib.cell?_alloc_some o r2; have Xr3 := fun o => Lib.cell?_alloc_some o r3; have Xr4 := fun o => Lib.cell?_alloc_some o r4; have Xr5 := fun o => Lib.cell?_alloc_some o r5; have Xr6 := fun o => Lib.cell?_alloc_some o r6; clear b6)
        clear hHeld
        refine hK.out _ _ ?_ (fun hHeld => ?_)
        · exact ⟨y0, y1, y2, y3, y4, y5, y6, y7, y8, y9, y10, y11, q0, z0, z1, z2, z3, z4, z5, z6, r0, r1, r2, r3, r4, r5, r6⟩
        clear hK K
        (try simp only [Act.put, List.setIfInBounds_toArray, List.set_cons_zero, List.set_cons_succ])
        refine wpAnyH_take (i := 6) (v := ?_) rfl (by kernel_rfl) (by kernel_rfl) (by kernel_rfl) (fun _ _ _ h => h) (Or.inl ⟨by kernel_rfl, ?_⟩) (by assumption) ?_
        rotate_left
        · ((intro w hSw; (try dsimp only at hSw); go_simp) <;> with_reducible rfl)
        (try simp only [Act.put, List.setIfInBounds_toArray, List.set_cons_zero, List.set_cons_succ])
        refine wpAnyH_take (i := 7) (v := ?_) rfl (by kernel_rfl) (by kernel_rfl) (by kernel_rfl) (fun _ _ _ h => h) (Or.inl ⟨by kernel_rfl, ?_⟩) (by assumption) ?_
        rotate_left
        · ((intro w hSw; (try dsimp only at hSw); go_simp) <;> with_reducible rfl)
        (try simp only [Act.put, List.setIfInBounds_toArray, List.set_cons_zero, List.set_cons_succ])
        refine wpAnyH_take (i := 8) (v := ?_) rfl (by kernel_rfl) (by kernel_rfl) (by kernel_rfl) (fun _ _ _ h => h) (Or.inl ⟨by kernel_rfl, ?_⟩) (by assumption) ?_
        rotate_left
        · ((intro w hSw; (try dsimp only at hSw); go_simp) <;> with_reducible rfl)
        (try simp only [Act.put, List.setIfInBounds_toArray, List.set_cons_zero, List.set_cons_succ])
        refine wpAnyH_take (i := 9) (v := ?_) rfl (by kernel_rfl) (by kernel_rfl) (by kernel_rfl) (fun _ _ _ h => h) (Or.inl ⟨by kernel_rfl, ?_⟩) (by assumption) ?_
        rotate_left
        · ((intro w hSw; (try dsimp only at hSw); go_simp) <;> with_reducible rfl)
        (try simp only [Act.put, List.setIfInBounds_toArray, List.set_cons_zero, List.set_cons_succ])
        refine wpAnyH_take (i := 10) (v := ?_) rfl (by kernel_rfl) (by kernel_rfl) (by kernel_rfl) (fun _ _ _ h => h) (Or.inl ⟨by kernel_rfl, ?_⟩) (by assumption) ?_
        rotate_left
        · ((intro w hSw; (try dsimp only at hSw); go_simp) <;> with_reducible rfl)
        (try simp only [Act.put, List.setIfInBounds_toArray, List.set_cons_zero, List.set_cons_succ])
        refine wpAnyH_take (i := 11) (v := ?_) rfl (by kernel_rfl) (by kernel_rfl) (by kernel_rfl) (fun _ _ _ h => h) (Or.inl ⟨by kernel_rfl, ?_⟩) (by assumption) ?_
        rotate_left
        · ((intro w hSw; (try dsimp only at hSw); go_simp) <;> with_reducible rfl)
        (try simp only [Act.put, List.setIfInBounds_toArray, List.set_cons_zero, List.set_cons_succ])
        refine wpAnyH_take (i := 12) (v := ?_) rfl (by kernel_rfl) (by kernel_rfl) (by kernel_rfl) (fun _ _ _ h => h) (Or.inl ⟨by kernel_rfl, ?_⟩) (by assumption) ?_
        rotate_left
        · ((intro w hSw; (try dsimp only at hSw); go_simp) <;> with_reducible rfl)
        (try simp only [Act.put, List.setIfInBounds_toArray, List.set_cons_zero, List.set_cons_succ])
        refine wpAnyH_take (i := 13) (v := ?_) rfl (by kernel_rfl) (by kernel_rfl) (by kernel_rfl) (fun _ _ _ h => h) (Or.inl ⟨by kernel_rfl, ?_⟩) (by assumption) ?_
        rotate_left
        · ((intro w hSw; (try dsimp only at hSw); go_simp) <;> with_reducible rfl)
        (try simp only [Act.put, List.setIfInBounds_toArray, List.set_cons_zero, List.set_cons_succ])
        refine wpAnyH_take (i := 14) (v := ?_) rfl (by kernel_rfl) (by kernel_rfl) (by kernel_rfl) (fun _ _ _ h => h) (Or.inl ⟨by kernel_rfl, ?_⟩) (by assumption) ?_
        rotate_left
        · ((intro w hSw; (try dsimp only at hSw); go_simp) <;> with_reducible rfl)
        (try simp only [Act.put, List.setIfInBounds_toArray, List.set_cons_zero, List.set_cons_succ])
        refine wpAnyH_take (i := 15) (v := ?_) rfl (by kernel_rfl) (by kernel_rfl) (by kernel_rfl) (fun _ _ _ h => h) (Or.inl ⟨by kernel_rfl, ?_⟩) (by assumption) ?_
        rotate_left
        · ((intro w hSw; (try dsimp only at hSw); go_simp) <;> with_reducible rfl)
        (try simp only [Act.put, List.setIfInBounds_toArray, List.set_cons_zero, List.set_cons_succ])
        refine wpAnyH_take (i := 16) (v := ?_) rfl (by kernel_rfl) (by kernel_rfl) (by kernel_rfl) (fun _ _ _ h => h) (Or.inl ⟨by kernel_rfl, ?_⟩) (by assumption) ?_
        rotate_left
        · ((intro w hSw; (try dsimp only at hSw); go_simp) <;> with_reducible rfl)
        (try simp only [Act.put, List.setIfInBounds_toArray, List.set_cons_zero, List.set_cons_succ])
        refine wpAnyH_ready (rs := [17]) (by kernel_rfl) (by simp) ?_
        refine AllReadyH.cons rfl (fun K hK => ?_) ?_
        rotate_left
        exact AllReadyH.nil
        go_simp
        (go_at_call 21; refine (t2 _ _ (by first | exact Below.refl _ _ | exact below_drew _) _ _ Ld _ _ z0 q0).mono ?_; rintro e w5 ⟨a6, c6, rfl, Ll, b6⟩; (try replace b6 := undrew b6); replace Ev := Lib.hid ((b6.block _ (Array.getElem?_eq_some_iff.1 Ev.out).1).trans Ev.out); replace Ek := Lib.hid ((b6.block _ (Array.getElem?_eq_some_iff.1 Ek.out).1).trans Ek.out); replace Ed := Lib.hid ((b6.block _ (Array.getElem?_eq_some_iff.1 Ed.out).1).trans Ed.out); replace Eb := Lib.hid ((b6.block _ (Array.getElem?_eq_some_iff.1 Eb.out).1).trans Eb.out); (try replace Ld := Ld.below b6); replace B := Below.then B b6; clear y0 y1 y2 y3 y4 y5 y6 y7 y8 y9 y10 y11 yf Xy0 Xy1 Xy2 Xy3 Xy4 Xy5 Xy6 Xy7 Xy8 Xy9 Xy10 Xy11 q0 qf Xq0 z0 z1 z2 z3 z4 z5 z6 zf Xz0 Xz1 Xz2 Xz3 Xz4 Xz5 Xz6 r0 r1 r2 r3 r4 r5 r6 rf Xr0 Xr1 Xr2 Xr3 Xr4 Xr5 Xr6; obtain ⟨y0, y1, y2, y3, y4, y5, y6, y7, y8, y9, y10, y11, yf⟩ := cells12 Ev.out; have Xy0 := fun o => Lib.cell?_alloc_some o y0; have Xy1 := fun o => Lib.cell?_alloc_some o y1; have Xy2 := fun o => Lib.cell?_alloc_some o y2; have Xy3 := fun o => Lib.cell?_alloc_some o y3; have Xy4 := fun o => Lib.cell?_alloc_some o y4; have Xy5 := fun o => Lib.cell?_alloc_some o y5; have Xy6 := fun o => Lib.cell?_alloc_some o y6; have Xy7 := fun o => Lib.cell?_alloc_some o y7; have Xy8 := fun o => Lib.cell?_alloc_some o y8; have Xy9 := fun o => Lib.cell?_alloc_some o y9; have Xy10 := fun o => Lib.cell?_alloc_some o y10; have Xy11 := fun o => Lib.cell?_alloc_some o y11; obtain ⟨q0, qf⟩ := cells1 Ek.out; have Xq0 := fun o => Lib.cell?_alloc_some o q0; obtain ⟨z0, z1, z2, z3, z4, z5, z6, zf⟩ := cells7 Ed.out; have Xz0 := fun o => Lib.cell?_alloc_some o z0; have Xz1 := fun o => Lib.cell?_alloc_some o z1; have Xz2 := fun o => Lib.cell?_alloc_some o z2; have Xz3 := fun o => Lib.cell?_alloc_some o z3; have Xz4 := fun o => Lib.cell?_alloc_some o z4; have Xz5 := fun o => Lib.cell?_alloc_some o z5; have Xz6 := fun o => Lib.cell?_alloc_some o z6; obtain ⟨r0, r1, r2, r3, r4, r5, r6, rf⟩ := cells7 Eb.out; have Xr0 := fun o => Lib.cell?_alloc_some o r0; have Xr1 := fun o => Lib.cell?_alloc_some o r1; have Xr2 := fun o => Lib.cell?_alloc_some o r2; have Xr3 := fun o => Lib.cell?_alloc_some o r3; have Xr4 := fun o => Lib.cell?_alloc_some o r4; have Xr5 := fun o => Lib.cell?_alloc_some o r5; have Xr6 := fun o => Lib.cell?_alloc_some o r6; clear b6)
        clear hHeld
        refine hK.out _ _ ?_ (fun hHeld => ?_)
        · exact ⟨y0, y1, y2, y3, y4, y5, y6, y7, y8, y9, y10, y11, q0, z0, z1, z2, z3, z4, z5, z6, r0, r1, r2, r3, r4, r5, r6⟩
        clear hK K
        (try simp only [Act.put, List.setIfInBounds_toArray, List.set_cons_zero, List.set_cons_succ])
        refine wpAnyH_ready (rs := [18]) (by kernel_rfl) (by simp) ?_
        refine AllReadyH.cons rfl (fun K hK => ?_) ?_
        rotate_left
        exact AllReadyH.nil
        go_simp
        (go_at_call 17; refine (h9 _ _ (by first | exact Below.refl _ _ | exact below_drew _) _ _ _ _ Ld Ll).mono ?_; rintro e w6 ⟨rfl, b6⟩; (try replace b6 := undrew b6); clear h9 Ll; replace Ev := Lib.hid ((b6.block _ (Array.getElem?_eq_some_iff.1 Ev.out).1).trans Ev.out); replace Ek := Lib.hid ((b6.block _ (Array.getElem?_eq_some_iff.1 Ek.out).1).trans Ek.out); replace Ed := Lib.hid ((b6.block _ (Array.getElem?_eq_some_iff.1 Ed.out).1).trans Ed.out); replace Eb := Lib.hid ((b6.block _ (Array.getElem?_eq_some_iff.1 Eb.out).1).trans Eb.out); (try replace Ld := Ld.below b6); replace B := Below.then B b6; clear y0 y1 y2 y3 y4 y5 y6 y7 y8 y9 y10 y11 yf Xy0 Xy1 Xy2 Xy3 Xy4 Xy5 Xy6 Xy7 Xy8 Xy9 Xy10 Xy11 q0 qf Xq0 z0 z1 z2 z3 z4 z5 z6 zf Xz0 Xz1 Xz2 Xz3 Xz4 Xz5 Xz6 r0 r1 r2 r3 r4 r5 r6 rf Xr0 Xr1 Xr2 Xr3 Xr4 Xr5 Xr6; obtain ⟨y0, y1, y2, y3, y4, y5, y6, y7, y8, y9, y10, y11, yf⟩ := cells12 Ev.out; have Xy0 := fun o => Lib.cell?_alloc_some o y0; have Xy1 := fun o => Lib.cell?_alloc_some o y1; have Xy2 := fun o => Lib.cell?_alloc_some o y2; have Xy3 := fun o => Lib.cell?_alloc_some o y3; have Xy4 := fun o => Lib.cell?_alloc_some o y4; have Xy5 := fun o => Lib.cell?_alloc_some o y5; have Xy6 := fun o => Lib.cell?_alloc_some o y6; have Xy7 := fun o => Lib.cell?_alloc_some o y7; have Xy8 := fun o => Lib.cell?_alloc_some o y8; have Xy9 := fun o => Lib.cell?_alloc_some o y9; have Xy10 := fun o => Lib.cell?_alloc_some o y10; have Xy11 := fun o => Lib.cell?_alloc_some o y11; obtain ⟨q0, qf⟩ := cells1 Ek.out; have Xq0 := fun o => Lib.cell?_alloc_some o q0; obtain ⟨z0, z1, z2, z3, z4, z5, z6, zf⟩ := cells7 Ed.out; have Xz0 := fun o => Lib.cell?_alloc_some o z0; have Xz1 := fun o => Lib.cell?_alloc_some o z1; have Xz2 := fun o => Lib.cell?_alloc_some o z2; have Xz3 := fun o => Lib.cell?_alloc_some o z3; have Xz4 := fun o => Lib.cell?_alloc_some o z4; have Xz5 := fun o => Lib.cell?_alloc_some o z5; have Xz6 := fun o => Lib.cell?_alloc_some o z6; obtain ⟨r0, r1, r2, r3, r4, r5, r6, rf⟩ := cells7 Eb.out; have Xr0 := fun o => Lib.cell?_alloc_some o r0; have Xr1 := fun o => Lib.cell?_alloc_some o r1; have Xr2 := fun o => Lib.cell?_alloc_some o r2; have Xr3 := fun o => Lib.cell?_alloc_some o r3; have Xr4 := fun o => Lib.cell?_alloc_some o r4; have Xr5 := fun o => Lib.cell?_alloc_some o r5; have Xr6 := fun o => Lib.cell?_alloc_some o r6; clear b6)
        clear hHeld
        refine hK.out _ _ ?_ (fun hHeld => ?_)
        · exact ⟨y0, y1, y2, y3, y4, y5, y6, y7, y8, y9, y10, y11, q0, z0, z1, z2, z3, z4, z5, z6, r0, r1, r2, r3, r4, r5, r6⟩
        clear hK K
        (try simp only [Act.put, List.setIfInBounds_toArray, List.set_cons_zero, List.set_cons_succ])
        refine wpAnyH_take (i := 19) (v := ?_) rfl (by kernel_rfl) (by kernel_rfl) (by kernel_rfl) (fun _ _ _ h => h) (Or.inl ⟨by kernel_rfl, ?_⟩) (by assumption) ?_
        rotate_left
        · ((intro w hSw; (try dsimp only at hSw); go_simp) <;> with_reducible rfl)
        (try simp only [Act.put, List.setIfInBounds_toArray, List.set_cons_zero, List.set_cons_succ])
        refine wpAnyH_take (i := 20) (v := ?_) rfl (by kernel_rfl) (by kernel_rfl) (by kernel_rfl) (fun _ _ _ h => h) (Or.inl ⟨by kernel_rfl, ?_⟩) (by assumption) ?_
        rotate_left
        · ((intro w hSw; (try dsimp only at hSw); go_simp) <;> with_reducible rfl)
        (try simp only [Act.put, List.setIfInBounds_toArray, List.set_cons_zero, List.set_cons_succ])
        refine wpAnyH_take (i := 21) (v := ?_) rfl (by kernel_rfl) (by kernel_rfl) (by kernel_rfl) (fun _ _ _ h => h) (Or.inl ⟨by kernel_rfl, ?_⟩) (by assumption) ?_
        rotate_left
        · ((intro w hSw; (try dsimp only at hSw); go_simp) <;> with_reducible rfl)
        (try simp only [Act.put, List.setIfInBounds_toArray, List.set_cons_zero, List.set_cons_succ])
        refine wpAnyH_take (i := 22) (v := ?_) rfl (by kernel_rfl) (by kernel_rfl) (by kernel_rfl) (fun _ _ _ h => h) (Or.inl ⟨by kernel_rfl, ?_⟩) (by assumption) ?_
        rotate_left
        · ((intro w hSw; (try dsimp only at hSw); go_simp) <;> with_reducible rfl)
        (try simp only [Act.put, List.setIfInBounds_toArray, List.set_cons_zero, List.set_cons_succ])
        refine wpAnyH_take (i := 23) (v := ?_) rfl (by kernel_rfl) (by kernel_rfl) (by kernel_rfl) (fun _ _ _ h => h) (Or.inl ⟨by kernel_rfl, ?_⟩) (by assumption) ?_
        rotate_left
        · ((intro w hSw; (try dsimp only at hSw); go_simp) <;> with_reducible rfl)
        (try simp only [Act.put, List.setIfInBounds_toArray, List.set_cons_zero, List.set_cons_succ])
        refine wpAnyH_take (i := 24) (v := ?_) rfl (by kernel_rfl) (by kernel_rfl) (by kernel_rfl) (fun _ _ _ h => h) (Or.inl ⟨by kernel_rfl, ?_⟩) (by assumption) ?_
        rotate_left
        · ((intro w hSw; (try dsimp only at hSw); go_simp) <;> with_reducible rfl)
        (try simp only [Act.put, List.setIfInBounds_toArray, List.set_cons_zero, List.set_cons_succ])
        refine wpAnyH_take (i := 25) (v := ?_) rfl (by kernel_rfl) (by kernel_rfl) (by kernel_rfl) (fun _ _ _ h => h) (Or.inl ⟨by kernel_rfl, ?_⟩) (by assumption) ?_
        rotate_left
        · ((intro w hSw; (try dsimp only at hSw); go_simp) <;> with_reducible rfl)
        (try simp only [Act.put, List.setIfInBounds_toArray, List.set_cons_zero, List.set_cons_succ])
        refine wpAnyH_take (i := 26) (v := ?_) rfl (by kernel_rfl) (by kernel_rfl) (by kernel_rfl) (fun _ _ _ h => h) (Or.inl ⟨by kernel_rfl, ?_⟩) (by assumption) ?_
        rotate_left
        · ((intro w hSw; (try dsimp only at hSw); go_simp) <;> with_reducible rfl)
        (try simp only [Act.put, List.setIfInBounds_toArray, List.set_cons_zero, List.set_cons_succ])
        refine wpAnyH_ready (rs := [27]) (by kernel_rfl) (by simp) ?_
        refine AllReadyH.cons rfl (fun K hK => ?_) ?_
        rotate_left
        exact AllReadyH.nil
        go_simp
        (go_at_call 21; refine (t0 _ _ (by first | exact Below.refl _ _ | exact below_drew _) _ _ Ld _ _ z0 q0).mono ?_; rintro e w5 ⟨a6, c6, rfl, Ll, b6⟩; (try replace b6 := undrew b6); replace Ev := Lib.hid ((b6.block _ (Array.getElem?_eq_some_iff.1 Ev.out).1).trans Ev.out); replace Ek := Lib.hid ((b6.block _ (Array.getElem?_eq_some_iff.1 Ek.out).1).trans Ek.out); replace Ed := Lib.hid ((b6.block _ (Array.getElem?_eq_some_iff.1 Ed.out).1).trans Ed.out); replace Eb := Lib.hid ((b6.block _ (Array.getElem?_eq_some_iff.1 Eb.out).1).trans Eb.out); (try replace Ld := Ld.below b6); replace B := Below.then B b6; clear y0 y1 y2 y3 y4 y5 y6 y7 y8 y9 y10 y11 yf Xy0 Xy1 Xy2 Xy3 Xy4 Xy5 Xy6 Xy7 Xy8 Xy9 Xy10 Xy11 q0 qf Xq0 z0 z1 z2 z3 z4 z5 z6 zf Xz0 Xz1 Xz2 Xz3 Xz4 Xz5 Xz6 r0 r1 r2 r3 r4 r5 r6 rf Xr0 Xr1 Xr2 Xr3 Xr4 Xr5 Xr6; obtain ⟨y0, y1, y2, y3, y4, y5, y6, y7, y8, y9, y10, y11, yf⟩ := cells12 Ev.out; have Xy0 := fun o => Lib.cell?_alloc_some o y0; have Xy1 := fun o => Lib.cell?_alloc_some o y1; have Xy2 := fun o => Lib.cell?_alloc_some o y2; have Xy3 := fun o => Lib.cell?_alloc_some o y3; have Xy4 := fun o => Lib.cell?_alloc_some o y4; have Xy5 := fun o => Lib.cell?_alloc_some o y5; have Xy6 := fun o => Lib.cell?_alloc_some o y6; have Xy7 := fun o => Lib.cell?_alloc_some o y7; have Xy8 := fun o => Lib.cell?_alloc_some o y8; have Xy9 := fun o => Lib.cell?_alloc_some o y9; have Xy10 := fun o => Lib.cell?_alloc_some o y10; have Xy11 := fun o => Lib.cell?_alloc_some o y11; obtain ⟨q0, qf⟩ := cells1 Ek.out; have Xq0 := fun o => Lib.cell?_alloc_some o q0; obtain ⟨z0, z1, z2, z3, z4, z5, z6, zf⟩ := cells7 Ed.out; have Xz0 := fun o => Lib.cell?_alloc_some o z0; have Xz1 := fun o => Lib.cell?_alloc_some o z1; have Xz2 := fun o => Lib.cell?_alloc_some o z2; have Xz3 := fun o => Lib.cell?_alloc_some o z3; have Xz4 := fun o => Lib.cell?_alloc_some o z4; have Xz5 := fun o => Lib.cell?_alloc_some o z5; have Xz6 := fun o => Lib.cell?_alloc_some o z6; obtain ⟨r0, r1, r2, r3, r4, r5, r6, rf⟩ := cells7 Eb.out; have Xr0 := fun o => Lib.cell?_alloc_some o r0; have Xr1 := fun o => Lib.cell?_alloc_some o r1; have Xr2 := fun o => Lib.cell?_alloc_some o r2; have Xr3 := fun o => Lib.cell?_alloc_some o r3; have Xr4 := fun o => Lib.cell?_alloc_some o r4; have Xr5 := fun o => Lib.cell?_alloc_some o r5; have Xr6 := fun o => Lib.cell?_alloc_some o r6; clear b6)
        clear hHeld
        refine hK.out _ _ ?_ (fun hHeld => ?_)
        · exact ⟨y0, y1, y2, y3, y4, y5, y6, y7, y8, y9, y10, y11, q0, z0, z1, z2, z3, z4, z5, z6, r0, r1, r2, r3, r4, r5, r6⟩
        clear hK K
        (try simp only [Act.put, List.setIfInBounds_toArray, List.set_cons_zero, List.set_cons_succ])
        refine wpAnyH_ready (rs := [28]) (by kernel_rfl) (by simp) ?_
        refine AllReadyH.cons rfl (fun K hK => ?_) ?_
        rotate_left
        exact AllReadyH.nil
        go_simp
        (go_at_call 17; refine (h7 _ _ (by first | exact Below.refl _ _ | exact below_drew _) _ _ _ _ Ld Ll).mono ?_; rintro e w6 ⟨rfl, b6⟩; (try replace b6 := undrew b6); clear h7 Ll; replace Ev := Lib.hid ((b6.block _ (Array.getElem?_eq_some_iff.1 Ev.out).1).trans Ev.out); replace Ek := Lib.hid ((b6.block _ (Array.getElem?_eq_some_iff.1 Ek.out).1).trans Ek.out); replace Ed := Lib.hid ((b6.block _ (Array.getElem?_eq_some_iff.1 Ed.out).1).trans Ed.out); replace Eb := Lib.hid ((b6.block _ (Array.getElem?_eq_some_iff.1 Eb.out).1).trans Eb.out); (try replace Ld := Ld.below b6); replace B := Below.then B b6; clear y0 y1 y2 y3 y4 y5 y6 y7 y8 y9 y10 y11 yf Xy0 Xy1 Xy2 Xy3 Xy4 Xy5 Xy6 Xy7 Xy8 Xy9 Xy10 Xy11 q0 qf Xq0 z0 z1 z2 z3 z4 z5 z6 zf Xz0 Xz1 Xz2 Xz3 Xz4 Xz5 Xz6 r0 r1 r2 r3 r4 r5 r6 rf Xr0 Xr1 Xr2 Xr3 Xr4 Xr5 Xr6; obtain ⟨y0, y1, y2, y3, y4, y5, y6, y7, y8, y9, y10, y11, yf⟩ := cells12 Ev.out; have Xy0 := fun o => Lib.cell?_alloc_some o y0; have Xy1 := fun o => Lib.cell?_alloc_some o y1; have Xy2 := fun o => Lib.cell?_alloc_some o y2; have Xy3 := fun o => Lib.cell?_alloc_some o y3; have Xy4 := fun o => Lib.cell?_alloc_some o y4; have Xy5 := fun o => Lib.cell?_alloc_some o y5; have Xy6 := fun o => Lib.cell?_alloc_some o y6; have Xy7 := fun o => Lib.cell?_alloc_some o y7; have Xy8 := fun o => Lib.cell?_alloc_some o y8; have Xy9 := fun o => Lib.cell?_alloc_some o y9; have Xy10 := fun o => Lib.cell?_alloc_some o y10; have Xy11 := fun o => Lib.cell?_alloc_some o y11; obtain ⟨q0, qf⟩ := cells1 Ek.out; have Xq0 := fun o => Lib.cell?_alloc_some o q0; obtain ⟨z0, z1, z2, z3, z4, z5, z6, zf⟩ := cells7 Ed.out; have Xz0 := fun o => Lib.cell?_alloc_some o z0; have Xz1 := fun o => Lib.cell?_alloc_some o z1; have Xz2 := fun o => Lib.cell?_alloc_some o z2; have Xz3 := fun o => Lib.cell?_alloc_some o z3; have Xz4 := fun o => Lib.cell?_alloc_some o z4; have Xz5 := fun o => Lib.cell?_alloc_some o z5; have Xz6 := fun o => Lib.cell?_alloc_some o z6; obtain ⟨r0, r1, r2, r3, r4, r5, r6, rf⟩ := cells7 Eb.out; have Xr0 := fun o => Lib.cell?_alloc_some o r0; have Xr1 := fun o => Lib.cell?_alloc_some o r1; have Xr2 := fun o => Lib.cell?_alloc_some o r2; have Xr3 := fun o => Lib.cell?_alloc_some o r3; have Xr4 := fun o => Lib.cell?_alloc_some o r4; have Xr5 := fun o => Lib.cell?_alloc_some o r5; have Xr6 := fun o => Lib.cell?_alloc_some o r6; clear b6)
        clear hHeld
        refine hK.out _ _ ?_ (fun hHeld => ?_)
        · exact ⟨y0, y1, y2, y3, y4, y5, y6, y7, y8, y9, y10, y11, q0, z0, z1, z2, z3, z4, z5, z6, r0, r1, r2, r3, r4, r5, r6⟩
        clear hK K
        (try simp only [Act.put, List.setIfInBounds_toArray, List.set_cons_zero, List.set_cons_succ])
        refine wpAnyH_take (i := 29) (v := ?_) rfl (by kernel_rfl) (by kernel_rfl) (by kernel_rfl) (fun _ _ _ h => h) (Or.inl ⟨by kernel_rfl, ?_⟩) (by assumption) ?_
        rotate_left
        · ((intro w hSw; (try dsimp only at hSw); go_simp) <;> with_reducible rfl)
        (try simp only [Act.put, List.setIfInBounds_toArray, List.set_cons_zero, List.set_cons_succ])
        refine wpAnyH_take (i := 30) (v := ?_) rfl (by kernel_rfl) (by kernel_rfl) (by kernel_rfl) (fun _ _ _ h => h) (Or.inl ⟨by kernel_rfl, ?_⟩) (by assumption) ?_
        rotate_left
        · ((intro w hSw; (try dsimp only at hSw); go_simp) <;> with_reducible rfl)
        (try simp only [Act.put, List.setIfInBounds_toArray, List.set_cons_zero, List.set_cons_succ])
        refine wpAnyH_take (i := 31) (v := ?_) rfl (by kernel_rfl) (by kernel_rfl) (by kernel_rfl) (fun _ _ _ h => h) (Or.inl ⟨by kernel_rfl, ?_⟩) (by assumption) ?_
        rotate_left
        · ((intro w hSw; (try dsimp only at hSw); go_simp) <;> with_reducible rfl)
        (try simp only [Act.put, List.setIfInBounds_toArray, List.set_cons_zero, List.set_cons_succ])
        refine wpAnyH_take (i := 32) (v := ?_) rfl (by kernel_rfl) (by kernel_rfl) (by kernel_rfl) (fun _ _ _ h => h) (Or.inl ⟨by kernel_rfl, ?_⟩) (by assumption) ?_
        rotate_left
        · ((intro w hSw; (try dsimp only at hSw); go_simp) <;> with_reducible rfl)
        (try simp only [Act.put, List.setIfInBounds_toArray, List.set_cons_zero, List.set_cons_succ])
        refine wpAnyH_take (i := 33) (v := ?_) rfl (by kernel_rfl) (by kernel_rfl) (by kernel_rfl) (fun _ _ _ h => h) (Or.inl ⟨by kernel_rfl, ?_⟩) (by assumption) ?_
        rotate_left
        · ((intro w hSw; (try dsimp only at hSw); go_simp) <;> with_reducible rfl)
        (try simp only [Act.put, List.setIfInBounds_toArray, List.set_cons_zero, List.set_cons_succ])
        refine wpAnyH_take (i := 34) (v := ?_) rfl (by kernel_rfl) (by kernel_rfl) (by kernel_rfl) (fun _ _ _ h => h) (Or.inl ⟨by kernel_rfl, ?_⟩) (by assumption) ?_
        rotate_left
        · ((intro w hSw; (try dsimp only at hSw); go_simp) <;> with_reducible rfl)
        (try simp only [Act.put, List.setIfInBounds_toArray, List.set_cons_zero, List.set_cons_succ])
        refine wpAnyH_ready (rs := [35]) (by kernel_rfl) (by simp) ?_
        refine AllReadyH.cons rfl (fun K hK => ?_) ?_
        rotate_left
        exact AllReadyH.nil
        go_simp
        (go_at_call 21; refine (t1 _ _ (by first | exact Below.refl _ _ | exact below_drew _) _ _ Ld _ _ z0 q0).mono ?_; rintro e w5 ⟨a6, c6, rfl, Ll, b6⟩; (try replace b6 := undrew b6); replace Ev := Lib.hid ((b6.block _ (Array.getElem?_eq_some_iff.1 Ev.out).1).trans Ev.out); replace Ek := Lib.hid ((b6.block _ (Array.getElem?_eq_some_iff.1 Ek.out).1).trans Ek.out); replace Ed := Lib.hid ((b6.block _ (Array.getElem?_eq_some_iff.1 Ed.out).1).trans Ed.out); replace Eb := Lib.hid ((b6.block _ (Array.getElem?_eq_some_iff.1 Eb.out).1).trans Eb.out); (try replace Ld := Ld.below b6); replace B := Below.then B b6; clear y0 y1 y2 y3 y4 y5 y6 y7 y8 y9 y10 y11 yf Xy0 Xy1 Xy2 Xy3 Xy4 Xy5 Xy6 Xy7 Xy8 Xy9 Xy10 Xy11 q0 qf Xq0 z0 z1 z2 z3 z4 z5 z6 zf Xz0 Xz1 Xz2 Xz3 Xz4 Xz5 Xz6 r0 r1 r2 r3 r4 r5 r6 rf Xr0 Xr1 Xr2 Xr3 Xr4 Xr5 Xr6; obtain ⟨y0, y1, y2, y3, y4, y5, y6, y7, y8, y9, y10, y11, yf⟩ := cells12 Ev.out; have Xy0 := fun o => Lib.cell?_alloc_some o y0; have Xy1 := fun o => Lib.cell?_alloc_some o y1; have Xy2 := fun o => Lib.cell?_alloc_some o y2; have Xy3 := fun o => Lib.cell?_alloc_some o y3; have Xy4 := fun o => Lib.cell?_alloc_some o y4; have Xy5 := fun o => Lib.cell?_alloc_some o y5; have Xy6 := fun o => Lib.cell?_alloc_some o y6; have Xy7 := fun o => Lib.cell?_alloc_some o y7; have Xy8 := fun o => Lib.cell?_alloc_some o y8; have Xy9 := fun o => Lib.cell?_alloc_some o y9; have Xy10 := fun o => Lib.cell?_alloc_some o y10; have Xy11 := fun o => Lib.cell?_alloc_some o y11; obtain ⟨q0, qf⟩ := cells1 Ek.out; have Xq0 := fun o => Lib.cell?_alloc_some o q0; obtain ⟨z0, z1, z2, z3, z4, z5, z6, zf⟩ := cells7 Ed.out; have Xz0 := fun o => Lib.cell?_alloc_some o z0; have Xz1 := fun o => Lib.cell?_alloc_some o z1; have Xz2 := fun o => Lib.cell?_alloc_some o z2; have Xz3 := fun o => Lib.cell?_alloc_some o z3; have Xz4 := fun o => Lib.cell?_alloc_some o z4; have Xz5 := fun o => Lib.cell?_alloc_some o z5; have Xz6 := fun o => Lib.cell?_alloc_some o z6; obtain ⟨r0, r1, r2, r3, r4, r5, r6, rf⟩ := cells7 Eb.out; have Xr0 := fun o => Lib.cell?_alloc_some o r0; have Xr1 := fun o => Lib.cell?_alloc_some o r1; have Xr2 := fun o => Lib.cell?_alloc_some o r2; have Xr3 := fun o => Lib.cell?_alloc_some o r3; have Xr4 := fun o => Lib.cell?_alloc_some o r4; have Xr5 := fun o => Lib.cell?_alloc_some o r5; have Xr6 := fun o => Lib.cell?_alloc_some o r6; clear b6)
        clear hHeld
        refine hK.out _ _ ?_ (fun hHeld => ?_)
        · exact ⟨y0, y1, y2, y3, y4, y5, y6, y7, y8, y9, y10, y11, q0, z0, z1, z2, z3, z4, z5, z6, r0, r1, r2, r3, r4, r5, r6⟩
        clear hK K
        (try simp only [Act.put, List.setIfInBounds_toArray, List.set_cons_zero, List.set_cons_succ])
        refine wpAnyH_ready (rs := [36]) (by kernel_rfl) (by simp) ?_
        refine AllReadyH.cons rfl (fun K hK => ?_) ?_
        rotate_left
        exact AllReadyH.nil
        go_simp
        (go_at_call 17; refine (h8 _ _ (by first | exact Below.refl _ _ | exact below_drew _) _ _ _ _ Ld Ll).mono ?_; rintro e w6 ⟨rfl, b6⟩; (try replace b6 := undrew b6); clear h8 Ll; replace Ev := Lib.hid ((b6.block _ (Array.getElem?_eq_some_iff.1 Ev.out).1).trans Ev.out); replace Ek := Lib.hid ((b6.block _ (Array.getElem?_eq_some_iff.1 Ek.out).1).trans Ek.out); replace Ed := Lib.hid ((b6.block _ (Array.getElem?_eq_some_iff.1 Ed.out).1).trans Ed.out); replace Eb := Lib.hid ((b6.block _ (Array.getElem?_eq_some_iff.1 Eb.out).1).trans Eb.out); (try replace Ld := Ld.below b6); replace B := Below.then B b6; clear y0 y1 y2 y3 y4 y5 y6 y7 y8 y9 y10 y11 yf Xy0 Xy1 Xy2 Xy3 Xy4 Xy5 Xy6 Xy7 Xy8 Xy9 Xy10 Xy11 q0 qf Xq0 z0 z1 z2 z3 z4 z5 z6 zf Xz0 Xz1 Xz2 Xz3 Xz4 Xz5 Xz6 r0 r1 r2 r3 r4 r5 r6 rf Xr0 Xr1 Xr2 Xr3 Xr4 Xr5 Xr6; obtain ⟨y0, y1, y2, y3, y4, y5, y6, y7, y8, y9, y10, y11, yf⟩ := cells12 Ev.out; have Xy0 := fun o => Lib.cell?_alloc_some o y0; have Xy1 := fun o => Lib.cell?_alloc_some o y1; have Xy2 := fun o => Lib.cell?_alloc_some o y2; have Xy3 := fun o => Lib.cell?_alloc_some o y3; have Xy4 := fun o => Lib.cell?_alloc_some o y4; have Xy5 := fun o => Lib.cell?_alloc_some o y5; have Xy6 := fun o => Lib.cell?_alloc_some o y6; have Xy7 := fun o => Lib.cell?_alloc_some o y7; have Xy8 := fun o => Lib.cell?_alloc_some o y8; have Xy9 := fun o => Lib.cell?_alloc_some o y9; have Xy10 := fun o => Lib.cell?_alloc_some o y10; have Xy11 := fun o => Lib.cell?_alloc_some o y11; obtain ⟨q0, qf⟩ := cells1 Ek.out; have Xq0 := fun o => Lib.cell?_alloc_some o q0; obtain ⟨z0, z1, z2, z3, z4, z5, z6, zf⟩ := cells7 Ed.out; have Xz0 := fun o => Lib.cell?_alloc_some o z0; have Xz1 := fun o => Lib.cell?_alloc_some o z1; have Xz2 := fun o => Lib.cell?_alloc_some o z2; have Xz3 := fun o => Lib.cell?_alloc_some o z3; have Xz4 := fun o => Lib.cell?_alloc_some o z4; have Xz5 := fun o => Lib.cell?_alloc_some o z5; have Xz6 := fun o => Lib.cell?_alloc_some o z6; obtain ⟨r0, r1, r2, r3, r4, r5, r6, rf⟩ := cells7 Eb.out; have Xr0 := fun o => Lib.cell?_alloc_some o r0; have Xr1 := fun o => Lib.cell?_alloc_some o r1; have Xr2 := fun o => Lib.cell?_alloc_some o r2; have Xr3 := fun o => Lib.cell?_alloc_some o r3; have Xr4 := fun o => Lib.cell?_alloc_some o r4; have Xr5 := fun o => Lib.cell?_alloc_some o r5; have Xr6 := fun o => Lib.cell?_alloc_some o r6; clear b6)
        clear hHeld
        refine hK.out _ _ ?_ (fun hHeld => ?_)
        · exact ⟨y0, y1, y2, y3, y4, y5, y6, y7, y8, y9, y10, y11, q0, z0, z1, z2, z3, z4, z5, z6, r0, r1, r2, r3, r4, r5, r6⟩
        clear hK K
        (try simp only [Act.put, List.setIfInBounds_toArray, List.set_cons_zero, List.set_cons_succ])
        refine wpAnyH_take (i := 37) (v := ?_) rfl (by kernel_rfl) (by kernel_rfl) (by kernel_rfl) (fun _ _ _ h => h) (Or.inl ⟨by kernel_rfl, ?_⟩) (by assumption) ?_
        rotate_left
        · ((intro w hSw; (try dsimp only at hSw); go_simp) <;> with_reducible rfl)
        (try simp only [Act.put, List.setIfInBounds_toArray, List.set_cons_zero, List.set_cons_succ])
        refine wpAnyH_take (i := 38) (v := ?_) rfl (by kernel_rfl) (by kernel_rfl) (by kernel_rfl) (fun _ _ _ h => h) (Or.inl ⟨by kernel_rfl, ?_⟩) (by assumption) ?_
        rotate_left
        · ((intro w hSw; (try dsimp only at hSw); go_simp) <;> with_reducible rfl)
        (try simp only [Act.put, List.setIfInBounds_toArray, List.set_cons_zero, List.set_cons_succ])
        refine wpAnyH_take (i := 39) (v := ?_) rfl (by kernel_rfl) (by kernel_rfl) (by kernel_rfl) (fun _ _ _ h => h) (Or.inl ⟨by kernel_rfl, ?_⟩) (by assumption) ?_
        rotate_left
        · ((intro w hSw; (try dsimp only at hSw); go_simp) <;> with_reducible rfl)
        (try simp only [Act.put, List.setIfInBounds_toArray, List.set_cons_zero, List.set_cons_succ])
        refine wpAnyH_take (i := 40) (v := ?_) rfl (by kernel_rfl) (by kernel_rfl) (by kernel_rfl) (fun _ _ _ h => h) (Or.inl ⟨by kernel_rfl, ?_⟩) (by assumption) ?_
        rotate_left
        · ((intro w hSw; (try dsimp only at hSw); go_simp) <;> with_reducible rfl)
        (try simp only [Act.put, List.setIfInBounds_toArray, List.set_cons_zero, List.set_cons_succ])
        refine wpAnyH_take (i := 41) (v := ?_) rfl (by kernel_rfl) (by kernel_rfl) (by kernel_rfl) (fun _ _ _ h => h) (Or.inl ⟨by kernel_rfl, ?_⟩) (by assumption) ?_
        rotate_left
        · ((intro w hSw; (try dsimp only at hSw); go_simp) <;> with_reducible rfl)
        (try simp only [Act.put, List.setIfInBounds_toArray, List.set_cons_zero, List.set_cons_succ])
        refine wpAnyH_take (i := 42) (v := ?_) rfl (by kernel_rfl) (by kernel_rfl) (by kernel_rfl) (fun _ _ _ h => h) (Or.inl ⟨by kernel_rfl, ?_⟩) (by assumption) ?_
        rotate_left
        · ((intro w hSw; (try dsimp only at hSw); go_simp) <;> with_reducible rfl)
        (try simp only [Act.put, List.setIfInBounds_toArray, List.set_cons_zero, List.set_cons_succ])
        refine wpAnyH_take (i := 43) (v := ?_) rfl (by kernel_rfl) (by kernel_rfl) (by kernel_rfl) (fun _ _ _ h => h) (Or.inl ⟨by kernel_rfl, ?_⟩) (by assumption) ?_
        rotate_left
        · ((intro w hSw; (try dsimp only at hSw); go_simp) <;> with_reducible rfl)
        (try simp only [Act.put, List.setIfInBounds_toArray, List.set_cons_zero, List.set_cons_succ])
        refine wpAnyH_take (i := 44) (v := ?_) rfl (by kernel_rfl) (by kernel_rfl) (by kernel_rfl) (fun _ _ _ h => h) (Or.inl ⟨by kernel_rfl, ?_⟩) (by assumption) ?_
        rotate_left
        · ((intro w hSw; (try dsimp only at hSw); go_simp) <;> with_reducible rfl)
        (try simp only [Act.put, List.setIfInBounds_toArray, List.set_cons_zero, List.set_cons_succ])
        refine wpAnyH_take (i := 45) (v := ?_) rfl (by kernel_rfl) (by kernel_rfl) (by kernel_rfl) (fun _ _ _ h => h) (Or.inl ⟨by kernel_rfl, ?_⟩) (by assumption) ?_
        rotate_left
        · ((intro w hSw; (try dsimp only at hSw); go_simp) <;> with_reducible rfl)
        (try simp only [Act.put, List.setIfInBounds_toArray, List.set_cons_zero, List.set_cons_succ])
        refine wpAnyH_take (i := 46) (v := ?_) rfl (by kernel_rfl) (by kernel_rfl) (by kernel_rfl) (fun _ _ _ h => h) (Or.inl ⟨by kernel_rfl, ?_⟩) (by assumption) ?_
        rotate_left
        · ((intro w hSw; (try dsimp only at hSw); go_simp) <;> with_reducible rfl)
        (try simp only [Act.put, List.setIfInBounds_toArray, List.set_cons_zero, List.set_cons_succ])
        refine wpAnyH_take (i := 47) (v := ?_) rfl (by kernel_rfl) (by kernel_rfl) (by kernel_rfl) (fun _ _ _ h => h) (Or.inl ⟨by kernel_rfl, ?_⟩) (by assumption) ?_
        rotate_left
        · ((intro w hSw; (try dsimp only at hSw); go_simp) <;> with_reducible rfl)
        (try simp only [Act.put, List.setIfInBounds_toArray, List.set_cons_zero, List.set_cons_succ])
        refine wpAnyH_take (i := 48) (v := ?_) rfl (by kernel_rfl) (by kernel_rfl) (by kernel_rfl) (fun _ _ _ h => h) (Or.inl ⟨by kernel_rfl, ?_⟩) (by assumption) ?_
        rotate_left
        · ((intro w hSw; (try dsimp only at hSw); go_simp) <;> with_reducible rfl)
        (try simp only [Act.put, List.setIfInBounds_toArray, List.set_cons_zero, List.set_cons_succ])
        refine wpAnyH_take (i := 49) (v := ?_) rfl (by kernel_rfl) (by kernel_rfl) (by kernel_rfl) (fun _ _ _ h => h) (Or.inl ⟨by kernel_rfl, ?_⟩) (by assumption) ?_
        rotate_left
        · ((intro w hSw; (try dsimp only at hSw); go_simp) <;> with_reducible rfl)
        (try simp only [Act.put, List.setIfInBounds_toArray, List.set_cons_zero, List.set_cons_succ])
        refine wpAnyH_take (i := 50) (v := ?_) rfl (by kernel_rfl) (by kernel_rfl) (by kernel_rfl) (fun _ _ _ h => h) (Or.inl ⟨by kernel_rfl, ?_⟩) (by assumption) ?_
        rotate_left
        · ((intro w hSw; (try dsimp only at hSw); go_simp) <;> with_reducible rfl)
        (try simp only [Act.put, List.setIfInBounds_toArray, List.set_cons_zero, List.set_cons_succ])
        refine wpAnyH_take (i := 51) (v := ?_) rfl (by kernel_rfl) (by kernel_rfl) (by kernel_rfl) (fun _ _ _ h => h) (Or.inl ⟨by kernel_rfl, ?_⟩) (by assumption) ?_
        rotate_left
        · ((intro w hSw; (try dsimp only at hSw); go_simp) <;> with_reducible rfl)
        (try simp only [Act.put, List.setIfInBounds_toArray, List.set_cons_zero, List.set_cons_succ])
        refine wpAnyH_take (i := 52) (v := ?_) rfl (by kernel_rfl) (by kernel_rfl) (by kernel_rfl) (fun _ _ _ h => h) (Or.inl ⟨by kernel_rfl, ?_⟩) (by assumption) ?_
        rotate_left
        · ((intro w hSw; (try dsimp only at hSw); go_simp) <;> with_reducible rfl)
        (try simp only [Act.put, List.setIfInBounds_toArray, List.set_cons_zero, List.set_cons_succ])
        refine wpAnyH_take (i := 53) (v := ?_) rfl (by kernel_rfl) (by kernel_rfl) (by kernel_rfl) (fun _ _ _ h => h) (Or.inl ⟨by kernel_rfl, ?_⟩) (by assumption) ?_
        rotate_left
        · ((intro w hSw; (try dsimp only at hSw); go_simp) <;> with_reducible rfl)
        (try simp only [Act.put, List.setIfInBounds_toArray, List.set_cons_zero, List.set_cons_succ])
        refine wpAnyH_take (i := 54) (v := ?_) rfl (by kernel_rfl) (by kernel_rfl) (by kernel_rfl) (fun _ _ _ h => h) (Or.inl ⟨by kernel_rfl, ?_⟩) (by assumption) ?_
        rotate_left
        · ((intro w hSw; (try dsimp only at hSw); go_simp) <;> with_reducible rfl)
        (try simp only [Act.put, List.setIfInBounds_toArray, List.set_cons_zero, List.set_cons_succ])
        refine wpAnyH_take (i := 55) (v := ?_) rfl (by kernel_rfl) (by kernel_rfl) (by kernel_rfl) (fun _ _ _ h => h) (Or.inl ⟨by kernel_rfl, ?_⟩) (by assumption) ?_
        rotate_left
        · ((intro w hSw; (try dsimp only at hSw); go_simp) <;> with_reducible rfl)
        (try simp only [Act.put, List.setIfInBounds_toArray, List.set_cons_zero, List.set_cons_succ])
        refine wpAnyH_ready (rs := [56]) (by kernel_rfl) (by simp) ?_
        refine AllReadyH.cons rfl (fun K hK => ?_) ?_
        rotate_left
        exact AllReadyH.nil
        go_simp
        (go_at_call 21; refine (t2 _ _ (by first | exact Below.refl _ _ | exact below_drew _) _ _ Ld _ _ z0 q0).mono ?_; rintro e w5 ⟨a6, c6, rfl, Ll, b6⟩; (try replace b6 := undrew b6); replace Ev := Lib.hid ((b6.block _ (Array.getElem?_eq_some_iff.1 Ev.out).1).trans Ev.out); replace Ek := Lib.hid ((b6.block _ (Array.getElem?_eq_some_iff.1 Ek.out).1).trans Ek.out); replace Ed := Lib.hid ((b6.block _ (Array.getElem?_eq_some_iff.1 Ed.out).1).trans Ed.out); replace Eb := Lib.hid ((b6.block _ (Array.getElem?_eq_some_iff.1 Eb.out).1).trans Eb.out); (try replace Ld := Ld.below b6); replace B := Below.then B b6; clear y0 y1 y2 y3 y4 y5 y6 y7 y8 y9 y10 y11 yf Xy0 Xy1 Xy2 Xy3 Xy4 Xy5 Xy6 Xy7 Xy8 Xy9 Xy10 Xy11 q0 qf Xq0 z0 z1 z2 z3 z4 z5 z6 zf Xz0 Xz1 Xz2 Xz3 Xz4 Xz5 Xz6 r0 r1 r2 r3 r4 r5 r6 rf Xr0 Xr1 Xr2 Xr3 Xr4 Xr5 Xr6; obtain ⟨y0, y1, y2, y3, y4, y5, y6, y7, y8, y9, y10, y11, yf⟩ := cells12 Ev.out; have Xy0 := fun o => Lib.cell?_alloc_some o y0; have Xy1 := fun o => Lib.cell?_alloc_some o y1; have Xy2 := fun o => Lib.cell?_alloc_some o y2; have Xy3 := fun o => Lib.cell?_alloc_some o y3; have Xy4 := fun o => Lib.cell?_alloc_some o y4; have Xy5 := fun o => Lib.cell?_alloc_some o y5; have Xy6 := fun o => Lib.cell?_alloc_some o y6; have Xy7 := fun o => Lib.cell?_alloc_some o y7; have Xy8 := fun o => Lib.cell?_alloc_some o y8; have Xy9 := fun o => Lib.cell?_alloc_some o y9; have Xy10 := fun o => Lib.cell?_alloc_some o y10; have Xy11 := fun o => Lib.cell?_alloc_some o y11; obtain ⟨q0, qf⟩ := cells1 Ek.out; have Xq0 := fun o => Lib.cell?_alloc_some o q0; obtain ⟨z0, z1, z2, z3, z4, z5, z6, zf⟩ := cells7 Ed.out; have Xz0 := fun o => Lib.cell?_alloc_some o z0; have Xz1 := fun o => Lib.cell?_alloc_some o z1; have Xz2 := fun o => Lib.cell?_alloc_some o z2; have Xz3 := fun o => Lib.cell?_alloc_some o z3; have Xz4 := fun o => Lib.cell?_alloc_some o z4; have Xz5 := fun o => Lib.cell?_alloc_some o z5; have Xz6 := fun o => Lib.cell?_alloc_some o z6; obtain ⟨r0, r1, r2, r3, r4, r5, r6, rf⟩ := cells7 Eb.out; have Xr0 := fun o => Lib.cell?_alloc_some o r0; have Xr1 := fun o => Lib.cell?_alloc_some o r1; have Xr2 := fun o => Lib.cell?_alloc_some o r2; have Xr3 := fun o => Lib.cell?_alloc_some o r3; have Xr4 := fun o => Lib.cell?_alloc_some o r4; have Xr5 := fun o => Lib.cell?_alloc_some o r5; have Xr6 := fun o => Lib.cell?_alloc_some o r6; clear b6)
        clear hHeld
        refine hK.out _ _ ?_ (fun hHeld => ?_)
        · exact ⟨y0, y1, y2, y3, y4, y5, y6, y7, y8, y9, y10, y11, q0, z0, z1, z2, z3, z4, z5, z6, r0, r1, r2, r3, r4, r5, r6⟩
        clear hK K
        (try simp only [Act.put, List.setIfInBounds_toArray, List.set_cons_zero, List.set_cons_succ])
        refine wpAnyH_ready (rs := [57]) (by kernel_rfl) (by simp) ?_
        refine AllReadyH.cons rfl (fun K hK => ?_) ?_
        rotate_left
        exact AllReadyH.nil
        go_simp
        (go_at_call 17; refine (h10 _ _ (by first | exact Below.refl _ _ | exact below_drew _) _ _ _ _ Ld Ll).mono ?_; rintro e w6 ⟨rfl, b6⟩; (try replace b6 := undrew b6); clear h10 Ll; replace Ev := Lib.hid ((b6.block _ (Array.getElem?_eq_some_iff.1 Ev.out).1).trans Ev.out); replace Ek := Lib.hid ((b6.block _ (Array.getElem?_eq_some_iff.1 Ek.out).1).trans Ek.out); replace Ed := Lib.hid ((b6.block _ (Array.getElem?_eq_some_iff.1 Ed.out).1).trans Ed.out); replace Eb := Lib.hid ((b6.block _ (Array.getElem?_eq_some_iff.1 Eb.out).1).trans Eb.out); (try replace Ld := Ld.below b6); replace B := Below.then B b6; clear y0 y1 y2 y3 y4 y5 y6 y7 y8 y9 y10 y11 yf Xy0 Xy1 Xy2 Xy3 Xy4 Xy5 Xy6 Xy7 Xy8 Xy9 Xy10 Xy11 q0 qf Xq0 z0 z1 z2 z3 z4 z5 z6 zf Xz0 Xz1 Xz2 Xz3 Xz4 Xz5 Xz6 r0 r1 r2 r3 r4 r5 r6 rf Xr0 Xr1 Xr2 Xr3 Xr4 Xr5 Xr6; obtain ⟨y0, y1, y2, y3, y4, y5, y6, y7, y8, y9, y10, y11, yf⟩ := cells12 Ev.out; have Xy0 := fun o => Lib.cell?_alloc_some o y0; have Xy1 := fun o => Lib.cell?_alloc_some o y1; have Xy2 := fun o => Lib.cell?_alloc_some o y2; have Xy3 := fun o => Lib.cell?_alloc_some o y3; have Xy4 := fun o => Lib.cell?_alloc_some o y4; have Xy5 := fun o => Lib.cell?_alloc_some o y5; have Xy6 := fun o => Lib.cell?_alloc_some o y6; have Xy7 := fun o => Lib.cell?_alloc_some o y7; have Xy8 := fun o => Lib.cell?_alloc_some o y8; have Xy9 := fun o => Lib.cell?_alloc_some o y9; have Xy10 := fun o => Lib.cell?_alloc_some o y10; have Xy11 := fun o => Lib.cell?_alloc_some o y11; obtain ⟨q0, qf⟩ := cells1 Ek.out; have Xq0 := fun o => Lib.cell?_alloc_some o q0; obtain ⟨z0, z1, z2, z3, z4, z5, z6, zf⟩ := cells7 Ed.out; have Xz0 := fun o => Lib.cell?_alloc_some o z0; have Xz1 := fun o => Lib.cell?_alloc_some o z1; have Xz2 := fun o => Lib.cell?_alloc_some o z2; have Xz3 := fun o => Lib.cell?_alloc_some o z3; have Xz4 := fun o => Lib.cell?_alloc_some o z4; have Xz5 := fun o => Lib.cell?_alloc_some o z5; have Xz6 := fun o => Lib.cell?_alloc_some o z6; obtain ⟨r0, r1, r2, r3, r4, r5, r6, rf⟩ := cells7 Eb.out; have Xr0 := fun o => Lib.cell?_alloc_some o r0; have Xr1 := fun o => Lib.cell?_alloc_some o r1; have Xr2 := fun o => Lib.cell?_alloc_some o r2; have Xr3 := fun o => Lib.cell?_alloc_some o r3; have Xr4 := fun o => Lib.cell?_alloc_some o r4; have Xr5 := fun o => Lib.cell?_alloc_some o r5; have Xr6 := fun o => Lib.cell?_alloc_some o r6; clear b6)
        clear hHeld
        refine hK.out _ _ ?_ (fun hHeld => ?_)
        · exact ⟨y0, y1, y2, y3, y4, y5, y6, y7, y8, y9, y10, y11, q0, z0, z1, z2, z3, z4, z5, z6, r0, r1, r2, r3, r4, r5, r6⟩
        clear hK K
        (try simp only [Act.put, List.setIfInBounds_toArray, List.set_cons_zero, List.set_cons_succ])
        refine wpAnyH_take (i := 58) (v := ?_) rfl (by kernel_rfl) (by kernel_rfl) (by kernel_rfl) (fun _ _ _ h => h) (Or.inl ⟨by kernel_rfl, ?_⟩) (by assumption) ?_
        rotate_left
        · ((intro w hSw; (try dsimp only at hSw); go_simp) <;> with_reducible rfl)
        (try simp only [Act.put, List.setIfInBounds_toArray, List.set_cons_zero, List.set_cons_succ])
        refine wpAnyH_take (i := 59) (v := ?_) rfl (by kernel_rfl) (by kernel_rfl) (by kernel_rfl) (fun _ _ _ h => h) (Or.inl ⟨by kernel_rfl, ?_⟩) (by assumption) ?_
        rotate_left
        · ((intro w hSw; (try dsimp only at hSw); go_simp) <;> with_reducible rfl)
        (try simp only [Act.put, List.setIfInBounds_toArray, List.set_cons_zero, List.set_cons_succ])
        refine wpAnyH_take (i := 60) (v := ?_) rfl (by kernel_rfl) (by kernel_rfl) (by kernel_rfl) (fun _ _ _ h => h) (Or.inl ⟨by kernel_rfl, ?_⟩) (by assumption) ?_
        rotate_left
        · ((intro w hSw; (try dsimp only at hSw); go_simp) <;> with_reducible rfl)
        (try simp only [Act.put, List.setIfInBounds_toArray, List.set_cons_zero, List.set_cons_succ])
        refine wpAnyH_take (i := 61) (v := ?_) rfl (by kernel_rfl) (by kernel_rfl) (by kernel_rfl) (fun _ _ _ h => h) (Or.inl ⟨by kernel_rfl, ?_⟩) (by assumption) ?_
        rotate_left
        · ((intro w hSw; (try dsimp only at hSw); go_simp) <;> with_reducible rfl)
        (try simp only [Act.put, List.setIfInBounds_toArray, List.set_cons_zero, List.set_cons_succ])
        refine wpAnyH_done (by kernel_rfl) ?_ _
        go_wp2
        go_ret
        rename_i x1 d1 f1 x0 d0 f0
        have e1 := Option.some.inj (show some _ = some d1 from f1)
        have e0 := Option.some.inj (show some _ = some d0 from f0)
        subst e1 e0
        exact ⟨by kernel_rfl, B⟩
end L09One
end Go.Proofs.Ytlfabajceflpdaa
