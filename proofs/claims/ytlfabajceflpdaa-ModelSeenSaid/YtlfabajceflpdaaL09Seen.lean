/- ModelSeen: what was seen may be, and it alone; what may not be is not seen, and leaves the state. No condition. -/
import Derived.Test.YtlfabajceflpdaaAny9
import Derived.Deep.RegionHeld3
namespace Go.Proofs.Ytlfabajceflpdaa
open Go.RowKit Md
set_option linter.unusedVariables false
attribute [local go_sem] max2_int min2_int max_two min_two Sec.eqx Sec.guardx
namespace L09Seen
set_option maxHeartbeats 2000000 in
set_option maxRecDepth 100000 in
theorem ModelSeen_c (cs0 : Array Value) (a1 : Option Addr) (len1 cap1 : Nat) (w : World) (s0 : Sh.ok w (.agg 7 [(0, 1, .slice 4 (.agg 4 [(0, 1, .int .u32), (1, 1, .int .u32), (2, 1, .int .u32), (3, 1, .int .u32)])), (1, 1, .bool), (2, 1, .int .i64), (3, 4, .agg 4 [(0, 1, .int .u32), (1, 1, .int .u32), (2, 1, .int .u32), (3, 1, .int .u32)])]) cs0.toList) (s1 : Sh.ok w (.slice 4 (.agg 4 [(0, 1, .int .u32), (1, 1, .int .u32), (2, 1, .int .u32), (3, 1, .int .u32)])) [.slice a1 len1 cap1]) :
    Calls Try.prog 6 #[.agg cs0, .slice a1 len1 cap1] w fun e w' => e = .returned (.bool true) ∧ Below w.heap.size w w' := by
  obtain ⟨a, n, cap, s, hcs, La⟩ := st_of s0
  obtain ⟨l, Ll⟩ := lv_of s1
  clear s0 s1
  rw [hcs]
  clear hcs
  have hal := fun o => Live9.alive_c (w.alloc o)
  have key : (60 < n) ∨ (n ≤ 60 ∧ 60 < len1) ∨ (n ≤ 60 ∧ len1 ≤ 60) := by omega
  unfold stv
  rcases key with k1 | ⟨k1, k2⟩ | ⟨k1, k2⟩
  · have k1' : (60 : Int) < (n : Int) := by omega
    go_enter Try.func6, Try.ntmps6
    go_wp2_with (go_at_call 9; refine (hal _).mono ?_; rintro e w1 ⟨rfl, b5⟩; clear hal; obtain ⟨Es, b6⟩ := alloc1_then b5; clear b5; replace Es := Lib.hid Es; have B := b6; obtain ⟨x0, x1, x2, x3, x4, x5, x6, xf⟩ := cells7 Es.out; have Xx0 := fun o => Lib.cell?_alloc_some o x0; have Xx1 := fun o => Lib.cell?_alloc_some o x1; have Xx2 := fun o => Lib.cell?_alloc_some o x2; have Xx3 := fun o => Lib.cell?_alloc_some o x3; have Xx4 := fun o => Lib.cell?_alloc_some o x4; have Xx5 := fun o => Lib.cell?_alloc_some o x5; have Xx6 := fun o => Lib.cell?_alloc_some o x6; clear b6)
    go_ret
    exact ⟨rfl, B⟩
  · have k1' : (n : Int) ≤ 60 := by omega
    have k2' : (60 : Int) < (len1 : Int) := by omega
    go_enter Try.func6, Try.ntmps6
    go_wp2_with (go_at_call 9; refine (hal _).mono ?_; rintro e w1 ⟨rfl, b5⟩; clear hal; obtain ⟨Es, b6⟩ := alloc1_then b5; clear b5; replace Es := Lib.hid Es; have B := b6; obtain ⟨x0, x1, x2, x3, x4, x5, x6, xf⟩ := cells7 Es.out; have Xx0 := fun o => Lib.cell?_alloc_some o x0; have Xx1 := fun o => Lib.cell?_alloc_some o x1; have Xx2 := fun o => Lib.cell?_alloc_some o x2; have Xx3 := fun o => Lib.cell?_alloc_some o x3; have Xx4 := fun o => Lib.cell?_alloc_some o x4; have Xx5 := fun o => Lib.cell?_alloc_some o x5; have Xx6 := fun o => Lib.cell?_alloc_some o x6; clear b6)
    go_ret
    exact ⟨rfl, B⟩
  · have k1' : (n : Int) ≤ 60 := by omega
    have k2' : (len1 : Int) ≤ 60 := by omega
    have hl := La.len
    have hm := Ll.len
    replace La : Stands w a n cap s := ⟨by omega, La⟩
    cases hq : may s l with
    | false =>
      have h1 := fun W (p : Stands W a n cap s) (r : Lv W a1 len1 cap1 l) => Mod.seen_no p.2 r p.1 (by omega) hq
      have h2 := fun W (p : Stands W a n cap s) (r : Lv W a1 len1 cap1 l) => Any9.may_m p r (by omega) (Lib.hid hq)
      clear hq hl hm
      unfold stv at *
      go_enter Try.func6, Try.ntmps6
      go_wp2_with (first | (go_at_call 9; refine (hal _).mono ?_; rintro e w1 ⟨rfl, b5⟩; clear hal; obtain ⟨Es, b6⟩ := alloc1_then b5; clear b5; replace Es := Lib.hid Es; replace La := La.below b6; replace Ll := Ll.below b6; have B := b6; obtain ⟨x0, x1, x2, x3, x4, x5, x6, xf⟩ := cells7 Es.out; have Xx0 := fun o => Lib.cell?_alloc_some o x0; have Xx1 := fun o => Lib.cell?_alloc_some o x1; have Xx2 := fun o => Lib.cell?_alloc_some o x2; have Xx3 := fun o => Lib.cell?_alloc_some o x3; have Xx4 := fun o => Lib.cell?_alloc_some o x4; have Xx5 := fun o => Lib.cell?_alloc_some o x5; have Xx6 := fun o => Lib.cell?_alloc_some o x6; clear b6) | (go_at_call 10; refine (h1 _ La Ll).mono ?_; rintro e w2 ⟨rfl, b6⟩; clear h1; replace Es := Lib.hid ((b6.block _ (Array.getElem?_eq_some_iff.1 Es.out).1).trans Es.out); (try replace La := La.below b6); (try replace Ll := Ll.below b6); replace B := Below.then B b6; clear x0 x1 x2 x3 x4 x5 x6 xf Xx0 Xx1 Xx2 Xx3 Xx4 Xx5 Xx6; obtain ⟨x0, x1, x2, x3, x4, x5, x6, xf⟩ := cells7 Es.out; have Xx0 := fun o => Lib.cell?_alloc_some o x0; have Xx1 := fun o => Lib.cell?_alloc_some o x1; have Xx2 := fun o => Lib.cell?_alloc_some o x2; have Xx3 := fun o => Lib.cell?_alloc_some o x3; have Xx4 := fun o => Lib.cell?_alloc_some o x4; have Xx5 := fun o => Lib.cell?_alloc_some o x5; have Xx6 := fun o => Lib.cell?_alloc_some o x6; clear b6) | (go_at_call 17; refine (h2 _ (La.below (alloc1_below _ _)) (Ll.below (alloc1_below _ _))).mono ?_; rintro e w3 ⟨rfl, b5⟩; clear h2; obtain ⟨Ex, b6⟩ := alloc1_then b5; clear b5; replace Ex := Lib.hid Ex; replace Es := Lib.hid ((b6.block _ (Array.getElem?_eq_some_iff.1 Es.out).1).trans Es.out); replace La := La.below b6; replace Ll := Ll.below b6; replace B := Below.then B b6; clear x0 x1 x2 x3 x4 x5 x6 xf Xx0 Xx1 Xx2 Xx3 Xx4 Xx5 Xx6; obtain ⟨x0, x1, x2, x3, x4, x5, x6, xf⟩ := cells7 Es.out; have Xx0 := fun o => Lib.cell?_alloc_some o x0; have Xx1 := fun o => Lib.cell?_alloc_some o x1; have Xx2 := fun o => Lib.cell?_alloc_some o x2; have Xx3 := fun o => Lib.cell?_alloc_some o x3; have Xx4 := fun o => Lib.cell?_alloc_some o x4; have Xx5 := fun o => Lib.cell?_alloc_some o x5; have Xx6 := fun o => Lib.cell?_alloc_some o x6; obtain ⟨z0, z1, z2, z3, z4, z5, z6, zf⟩ := cells7 Ex.out; have Xz0 := fun o => Lib.cell?_alloc_some o z0; have Xz1 := fun o => Lib.cell?_alloc_some o z1; have Xz2 := fun o => Lib.cell?_alloc_some o z2; have Xz3 := fun o => Lib.cell?_alloc_some o z3; have Xz4 := fun o => Lib.cell?_alloc_some o z4; have Xz5 := fun o => Lib.cell?_alloc_some o z5; have Xz6 := fun o => Lib.cell?_alloc_some o z6; clear b6) | (go_at_call 12; refine (Any9.same_r La La).mono ?_; rintro e w4 ⟨rfl, b6⟩; replace B := Below.then B b6; clear b6))
      go_ret
      exact ⟨rfl, B⟩
    | true =>
      have h1 := fun W (p : Stands W a n cap s) (r : Lv W a1 len1 cap1 l) => Mod.seen_yes p.2 r p.1 (by omega) hq
      have h2 := fun W (p : Stands W a n cap s) (r : Lv W a1 len1 cap1 l) => Any9.may_m p r (by omega) (Lib.hid hq)
      have hq2 : Hid (may (calm l) l = true) := by show _ = _; unfold may calm; simp
      have h3 := fun W a' n' c' (p : Stands W a' n' c' (calm l)) (r : Lv W a1 len1 cap1 l) => Any9.may_m p r (by omega) hq2
      have h4 := fun W a' n' c' (p : Stands W a' n' c' (calm l)) (r : Lv W a1 len1 cap1 l) => Any9.may_r p r (by omega) hq2
      clear hq hl hm
      unfold stv at *
      go_enter Try.func6, Try.ntmps6
      go_wp2_with (first | (go_at_call 9; refine (hal _).mono ?_; rintro e w1 ⟨rfl, b5⟩; clear hal; obtain ⟨Es, b6⟩ := alloc1_then b5; clear b5; replace Es := Lib.hid Es; replace La := La.below b6; replace Ll := Ll.below b6; have B := b6; obtain ⟨x0, x1, x2, x3, x4, x5, x6, xf⟩ := cells7 Es.out; have Xx0 := fun o => Lib.cell?_alloc_some o x0; have Xx1 := fun o => Lib.cell?_alloc_some o x1; have Xx2 := fun o => Lib.cell?_alloc_some o x2; have Xx3 := fun o => Lib.cell?_alloc_some o x3; have Xx4 := fun o => Lib.cell?_alloc_some o x4; have Xx5 := fun o => Lib.cell?_alloc_some o x5; have Xx6 := fun o => Lib.cell?_alloc_some o x6; clear b6) | (go_at_call 10; refine (h1 _ La Ll).mono ?_; rintro e w2 ⟨a', kap', rfl, Lx, b6⟩; clear h1; replace Lx : Stands w2 a' len1 kap' (calm l) := (⟨by omega, Lx⟩); replace Es := Lib.hid ((b6.block _ (Array.getElem?_eq_some_iff.1 Es.out).1).trans Es.out); (try replace La := La.below b6); (try replace Ll := Ll.below b6); replace B := Below.then B b6; clear x0 x1 x2 x3 x4 x5 x6 xf Xx0 Xx1 Xx2 Xx3 Xx4 Xx5 Xx6; obtain ⟨x0, x1, x2, x3, x4, x5, x6, xf⟩ := cells7 Es.out; have Xx0 := fun o => Lib.cell?_alloc_some o x0; have Xx1 := fun o => Lib.cell?_alloc_some o x1; have Xx2 := fun o => Lib.cell?_alloc_some o x2; have Xx3 := fun o => Lib.cell?_alloc_some o x3; have Xx4 := fun o => Lib.cell?_alloc_some o x4; have Xx5 := fun o => Lib.cell?_alloc_some o x5; have Xx6 := fun o => Lib.cell?_alloc_some o x6; clear b6) | (go_at_call 17; refine (h2 _ (La.below (alloc1_below _ _)) (Ll.below (alloc1_below _ _))).mono ?_; rintro e w3 ⟨rfl, b5⟩; clear h2; obtain ⟨Ex, b6⟩ := alloc1_then b5; clear b5; replace Ex := Lib.hid Ex; replace Es := Lib.hid ((b6.block _ (Array.getElem?_eq_some_iff.1 Es.out).1).trans Es.out); replace La := La.below b6; replace Ll := Ll.below b6; replace Lx := Lx.below b6; replace B := Below.then B b6; clear x0 x1 x2 x3 x4 x5 x6 xf Xx0 Xx1 Xx2 Xx3 Xx4 Xx5 Xx6; obtain ⟨x0, x1, x2, x3, x4, x5, x6, xf⟩ := cells7 Es.out; have Xx0 := fun o => Lib.cell?_alloc_some o x0; have Xx1 := fun o => Lib.cell?_alloc_some o x1; have Xx2 := fun o => Lib.cell?_alloc_some o x2; have Xx3 := fun o => Lib.cell?_alloc_some o x3; have Xx4 := fun o => Lib.cell?_alloc_some o x4; have Xx5 := fun o => Lib.cell?_alloc_some o x5; have Xx6 := fun o => Lib.cell?_alloc_some o x6; obtain ⟨z0, z1, z2, z3, z4, z5, z6, zf⟩ := cells7 Ex.out; have Xz0 := fun o => Lib.cell?_alloc_some o z0; have Xz1 := fun o => Lib.cell?_alloc_some o z1; have Xz2 := fun o => Lib.cell?_alloc_some o z2; have Xz3 := fun o => Lib.cell?_alloc_some o z3; have Xz4 := fun o => Lib.cell?_alloc_some o z4; have Xz5 := fun o => Lib.cell?_alloc_some o z5; have Xz6 := fun o => Lib.cell?_alloc_some o z6; clear b6) | (go_at_call 17; refine (h3 _ _ _ _ Lx Ll).mono ?_; rintro e w4 ⟨rfl, b6⟩; clear h3; replace Es := Lib.hid ((b6.block _ (Array.getElem?_eq_some_iff.1 Es.out).1).trans Es.out); replace Ex := Lib.hid ((b6.block _ (Array.getElem?_eq_some_iff.1 Ex.out).1).trans Ex.out); (try replace La := La.below b6); (try replace Ll := Ll.below b6); (try replace Lx := Lx.below b6); replace B := Below.then B b6; clear x0 x1 x2 x3 x4 x5 x6 xf Xx0 Xx1 Xx2 Xx3 Xx4 Xx5 Xx6 z0 z1 z2 z3 z4 z5 z6 zf Xz0 Xz1 Xz2 Xz3 Xz4 Xz5 Xz6; obtain ⟨x0, x1, x2, x3, x4, x5, x6, xf⟩ := cells7 Es.out; have Xx0 := fun o => Lib.cell?_alloc_some o x0; have Xx1 := fun o => Lib.cell?_alloc_some o x1; have Xx2 := fun o => Lib.cell?_alloc_some o x2; have Xx3 := fun o => Lib.cell?_alloc_some o x3; have Xx4 := fun o => Lib.cell?_alloc_some o x4; have Xx5 := fun o => Lib.cell?_alloc_some o x5; have Xx6 := fun o => Lib.cell?_alloc_some o x6; obtain ⟨z0, z1, z2, z3, z4, z5, z6, zf⟩ := cells7 Ex.out; have Xz0 := fun o => Lib.cell?_alloc_some o z0; have Xz1 := fun o => Lib.cell?_alloc_some o z1; have Xz2 := fun o => Lib.cell?_alloc_some o z2; have Xz3 := fun o => Lib.cell?_alloc_some o z3; have Xz4 := fun o => Lib.cell?_alloc_some o z4; have Xz5 := fun o => Lib.cell?_alloc_some o z5; have Xz6 := fun o => Lib.cell?_alloc_some o z6; clear b6) | (go_at_call 18; refine (h4 _ _ _ _ Lx Ll).mono ?_; rintro e w5 ⟨rfl, b6⟩; clear h4; replace Es := Lib.hid ((b6.block _ (Array.getElem?_eq_some_iff.1 Es.out).1).trans Es.out); replace Ex := Lib.hid ((b6.block _ (Array.getElem?_eq_some_iff.1 Ex.out).1).trans Ex.out); (try replace La := La.below b6); (try replace Ll := Ll.below b6); (try replace Lx := Lx.below b6); replace B := Below.then B b6; clear x0 x1 x2 x3 x4 x5 x6 xf Xx0 Xx1 Xx2 Xx3 Xx4 Xx5 Xx6 z0 z1 z2 z3 z4 z5 z6 zf Xz0 Xz1 Xz2 Xz3 Xz4 Xz5 Xz6; obtain ⟨x0, x1, x2, x3, x4, x5, x6, xf⟩ := cells7 Es.out; have Xx0 := fun o => Lib.cell?_alloc_some o x0; have Xx1 := fun o => Lib.cell?_alloc_some o x1; have Xx2 := fun o => Lib.cell?_alloc_some o x2; have Xx3 := fun o => Lib.cell?_alloc_some o x3; have Xx4 := fun o => Lib.cell?_alloc_some o x4; have Xx5 := fun o => Lib.cell?_alloc_some o x5; have Xx6 := fun o => Lib.cell?_alloc_some o x6; obtain ⟨z0, z1, z2, z3, z4, z5, z6, zf⟩ := cells7 Ex.out; have Xz0 := fun o => Lib.cell?_alloc_some o z0; have Xz1 := fun o => Lib.cell?_alloc_some o z1; have Xz2 := fun o => Lib.cell?_alloc_some o z2; have Xz3 := fun o => Lib.cell?_alloc_some o z3; have Xz4 := fun o => Lib.cell?_alloc_some o z4; have Xz5 := fun o => Lib.cell?_alloc_some o z5; have Xz6 := fun o => Lib.cell?_alloc_some o z6; clear b6))
      all_goals
        go_ret
        exact ⟨rfl, B⟩
end L09Seen
end Go.Proofs.Ytlfabajceflpdaa
