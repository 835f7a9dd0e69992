/- ModelApart: what is done with one sector leaves all others, and what was handed in. No condition. -/
import Derived.Test.YtlfabajceflpdaaAny9
import Derived.Deep.RegionHeld3
namespace Go.Proofs.Ytlfabajceflpdaa
open Go.RowKit Md
set_option linter.unusedVariables false
attribute [local go_sem] max2_int min2_int max_two min_two Sec.eqx Sec.guardx
theorem done_len (s : St) (x : Int) (v : V) : (Md.done s x v).sure.length = s.sure.length := by
  unfold Md.done
  split
  · simp [calm]
  · rfl
theorem done_get {s : St} {x : Int} {v : V} {j : Nat} (hj : j < s.sure.length) : (Md.done s x v).sure.getD j V.z = if (j : Int) = x then v else s.sure.getD j V.z := by
  unfold Md.done
  by_cases h : has s x = true
  · obtain ⟨k, rfl, hk⟩ := has_true h
    rw [if_pos h]
    simp only [calm, Int.toNat_natCast, Md.getD_set]
    by_cases e : k = j
    · subst e; rw [if_pos ⟨rfl, hk⟩, if_pos rfl]
    · rw [if_neg (fun h => e h.1), if_neg (by omega)]
  · rw [if_neg h]
    have hf := has_false (s := s) (x := x) (by simpa using h)
    rw [if_neg (by omega)]
namespace L09Apart
set_option maxHeartbeats 2000000 in
set_option maxRecDepth 100000 in
theorem ModelApart_c (cs0 : Array Value) (a1 : Int) (cs2 : Array Value) (w : World) (s0 : Sh.ok w (.agg 7 [(0, 1, .slice 4 (.agg 4 [(0, 1, .int .u32), (1, 1, .int .u32), (2, 1, .int .u32), (3, 1, .int .u32)])), (1, 1, .bool), (2, 1, .int .i64), (3, 4, .agg 4 [(0, 1, .int .u32), (1, 1, .int .u32), (2, 1, .int .u32), (3, 1, .int .u32)])]) cs0.toList) (w1 : (Lit.int .i64 a1).wf = true) (s2 : Sh.ok w (.agg 4 [(0, 1, .int .u32), (1, 1, .int .u32), (2, 1, .int .u32), (3, 1, .int .u32)]) cs2.toList) :
    Calls Try.prog 7 #[.agg cs0, .int .i64 a1, .agg cs2] w fun e w' => e = .returned (.bool true) ∧ Below w.heap.size w w' := by
  obtain ⟨lo, hi⟩ := wf_i64 w1
  have HN := Lib.hid (And.intro lo hi)
  clear w1 lo hi
  obtain ⟨a, n, cap, s, hcs, La⟩ := st_of s0
  obtain ⟨v, hv⟩ := vec_of s2
  have hcv : cs2 = #[.int .u32 v.a, .int .u32 v.b, .int .u32 v.c, .int .u32 v.d] := by cases cs2; simpa using hv
  clear s0 s2 hv
  subst hcv
  rw [hcs]
  clear hcs
  have hal := fun o1 o2 => Live9.alive_c ((w.alloc o1).alloc o2)
  unfold stv
  by_cases k1 : 60 < n
  · have k1' : (60 : Int) < (n : Int) := by omega
    go_enter Try.func7, Try.ntmps7
    go_wp2_with (go_at_call 9; refine (hal _ _).mono ?_; rintro e w1 ⟨rfl, b5⟩; clear hal; obtain ⟨Es, Ev, b6⟩ := alloc2_then b5; clear b5; replace Es := Lib.hid Es; replace Ev := Lib.hid Ev; have B := b6; obtain ⟨x0, x1, x2, x3, x4, x5, x6, xf⟩ := cells7 Es.out; have Xx0 := fun o => Lib.cell?_alloc_some o x0; have Xx1 := fun o => Lib.cell?_alloc_some o x1; have Xx2 := fun o => Lib.cell?_alloc_some o x2; have Xx3 := fun o => Lib.cell?_alloc_some o x3; have Xx4 := fun o => Lib.cell?_alloc_some o x4; have Xx5 := fun o => Lib.cell?_alloc_some o x5; have Xx6 := fun o => Lib.cell?_alloc_some o x6; obtain ⟨y0, y1, y2, y3, yf⟩ := cells4 Ev.out; have Xy0 := fun o => Lib.cell?_alloc_some o y0; have Xy1 := fun o => Lib.cell?_alloc_some o y1; have Xy2 := fun o => Lib.cell?_alloc_some o y2; have Xy3 := fun o => Lib.cell?_alloc_some o y3; clear b6)
    go_ret
    exact ⟨rfl, B⟩
  · have k1' : (n : Int) ≤ 60 := by omega
    have hsl := Lib.hid La.len
    replace La : Stands w a n cap s := ⟨by omega, La⟩
    obtain ⟨sd, HD⟩ : ∃ z, Hid (Md.done s a1 v = z) := ⟨_, rfl⟩
    obtain ⟨sb, HB⟩ : ∃ z, Hid (Md.begun s a1 v = z) := ⟨_, rfl⟩
    have hdl : Hid (sd.sure.length = n) := by show _ = _; rw [← HD.out, done_len]; exact La.2.len
    have hget : Hid (∀ j : Nat, j < n → sd.sure.getD j V.z = if (j : Int) = a1 then v else s.sure.getD j V.z) := fun j hj => by rw [← HD.out, done_get (by rw [hsl.out]; exact hj)]
    have h3 := fun W (p : Stands W a n cap s) => Any9.done_m p HD
    have h5 := fun W (p : Stands W a n cap s) => Any9.begun_m p HB
    unfold stv vv at *
    go_enter Try.func7, Try.ntmps7
    go_wp2_with (first | (go_at_call 9; refine (hal _ _).mono ?_; rintro e w1 ⟨rfl, b5⟩; clear hal; obtain ⟨Es, Ev, b6⟩ := alloc2_then b5; clear b5; replace Es := Lib.hid Es; replace Ev := Lib.hid Ev; replace La := La.below b6; have B := b6; obtain ⟨x0, x1, x2, x3, x4, x5, x6, xf⟩ := cells7 Es.out; have Xx0 := fun o => Lib.cell?_alloc_some o x0; have Xx1 := fun o => Lib.cell?_alloc_some o x1; have Xx2 := fun o => Lib.cell?_alloc_some o x2; have Xx3 := fun o => Lib.cell?_alloc_some o x3; have Xx4 := fun o => Lib.cell?_alloc_some o x4; have Xx5 := fun o => Lib.cell?_alloc_some o x5; have Xx6 := fun o => Lib.cell?_alloc_some o x6; obtain ⟨y0, y1, y2, y3, yf⟩ := cells4 Ev.out; have Xy0 := fun o => Lib.cell?_alloc_some o y0; have Xy1 := fun o => Lib.cell?_alloc_some o y1; have Xy2 := fun o => Lib.cell?_alloc_some o y2; have Xy3 := fun o => Lib.cell?_alloc_some o y3; clear b6) | (at_builtin; refine append_v (by go_simp) _ _ rfl w1.heap.size _ 0 [] rfl (World.ownsRow_nil _ _ _ _) rfl La.2 (by omega) (Nat.le_refl _) ?_; intro u1 w2 o1 g1 _; rw [Nat.zero_add, List.nil_append] at o1; have b6 := (Below.refl w1.heap.size w1).grown g1 (Nat.le_refl _) (by intro k hk; cases hk); obtain ⟨ak, kk, rfl, Lk, hgk⟩ := OwnsV.lv o1; clear o1 g1; replace Es := Lib.hid ((b6.block _ (Array.getElem?_eq_some_iff.1 Es.out).1).trans Es.out); replace Ev := Lib.hid ((b6.block _ (Array.getElem?_eq_some_iff.1 Ev.out).1).trans Ev.out); (try replace La := La.below b6); replace B := Below.then B b6; clear x0 x1 x2 x3 x4 x5 x6 xf Xx0 Xx1 Xx2 Xx3 Xx4 Xx5 Xx6 y0 y1 y2 y3 yf Xy0 Xy1 Xy2 Xy3; obtain ⟨x0, x1, x2, x3, x4, x5, x6, xf⟩ := cells7 Es.out; have Xx0 := fun o => Lib.cell?_alloc_some o x0; have Xx1 := fun o => Lib.cell?_alloc_some o x1; have Xx2 := fun o => Lib.cell?_alloc_some o x2; have Xx3 := fun o => Lib.cell?_alloc_some o x3; have Xx4 := fun o => Lib.cell?_alloc_some o x4; have Xx5 := fun o => Lib.cell?_alloc_some o x5; have Xx6 := fun o => Lib.cell?_alloc_some o x6; obtain ⟨y0, y1, y2, y3, yf⟩ := cells4 Ev.out; have Xy0 := fun o => Lib.cell?_alloc_some o y0; have Xy1 := fun o => Lib.cell?_alloc_some o y1; have Xy2 := fun o => Lib.cell?_alloc_some o y2; have Xy3 := fun o => Lib.cell?_alloc_some o y3; clear b6) | (go_at_call 13; refine (h3 _ La).mono ?_; rintro e w3 ⟨a5, n5, c5, rfl, Lx, b6⟩; clear h3; obtain rfl : n = n5 := (Lx.2.len.symm.trans hdl.out).symm; replace Es := Lib.hid ((b6.block _ (Array.getElem?_eq_some_iff.1 Es.out).1).trans Es.out); replace Ev := Lib.hid ((b6.block _ (Array.getElem?_eq_some_iff.1 Ev.out).1).trans Ev.out); (try replace La := La.below b6); (try replace Lk := Lk.below b6); replace B := Below.then B b6; clear x0 x1 x2 x3 x4 x5 x6 xf Xx0 Xx1 Xx2 Xx3 Xx4 Xx5 Xx6 y0 y1 y2 y3 yf Xy0 Xy1 Xy2 Xy3; obtain ⟨x0, x1, x2, x3, x4, x5, x6, xf⟩ := cells7 Es.out; have Xx0 := fun o => Lib.cell?_alloc_some o x0; have Xx1 := fun o => Lib.cell?_alloc_some o x1; have Xx2 := fun o => Lib.cell?_alloc_some o x2; have Xx3 := fun o => Lib.cell?_alloc_some o x3; have Xx4 := fun o => Lib.cell?_alloc_some o x4; have Xx5 := fun o => Lib.cell?_alloc_some o x5; have Xx6 := fun o => Lib.cell?_alloc_some o x6; obtain ⟨y0, y1, y2, y3, yf⟩ := cells4 Ev.out; have Xy0 := fun o => Lib.cell?_alloc_some o y0; have Xy1 := fun o => Lib.cell?_alloc_some o y1; have Xy2 := fun o => Lib.cell?_alloc_some o y2; have Xy3 := fun o => Lib.cell?_alloc_some o y3; clear b6))
    have b6 := alloc1_below w3 (.cells #[.slice a5 n c5, .bool sd.going, .int .i64 sd.at_, .int .u32 sd.next.a, .int .u32 sd.next.b, .int .u32 sd.next.c, .int .u32 sd.next.d] 28)
    have Ex := Lib.hid (heap_alloc_new w3 (.cells #[.slice a5 n c5, .bool sd.going, .int .i64 sd.at_, .int .u32 sd.next.a, .int .u32 sd.next.b, .int .u32 sd.next.c, .int .u32 sd.next.d] 28))
    generalize w3.alloc (.cells #[.slice a5 n c5, .bool sd.going, .int .i64 sd.at_, .int .u32 sd.next.a, .int .u32 sd.next.b, .int .u32 sd.next.c, .int .u32 sd.next.d] 28) = wX at *
    replace Lx := Lx.below b6
    replace Es := Lib.hid ((b6.block _ (Array.getElem?_eq_some_iff.1 Es.out).1).trans Es.out); replace Ev := Lib.hid ((b6.block _ (Array.getElem?_eq_some_iff.1 Ev.out).1).trans Ev.out); (try replace La := La.below b6); (try replace Lk := Lk.below b6); replace B := Below.then B b6; clear x0 x1 x2 x3 x4 x5 x6 xf Xx0 Xx1 Xx2 Xx3 Xx4 Xx5 Xx6 y0 y1 y2 y3 yf Xy0 Xy1 Xy2 Xy3; obtain ⟨x0, x1, x2, x3, x4, x5, x6, xf⟩ := cells7 Es.out; have Xx0 := fun o => Lib.cell?_alloc_some o x0; have Xx1 := fun o => Lib.cell?_alloc_some o x1; have Xx2 := fun o => Lib.cell?_alloc_some o x2; have Xx3 := fun o => Lib.cell?_alloc_some o x3; have Xx4 := fun o => Lib.cell?_alloc_some o x4; have Xx5 := fun o => Lib.cell?_alloc_some o x5; have Xx6 := fun o => Lib.cell?_alloc_some o x6; obtain ⟨y0, y1, y2, y3, yf⟩ := cells4 Ev.out; have Xy0 := fun o => Lib.cell?_alloc_some o y0; have Xy1 := fun o => Lib.cell?_alloc_some o y1; have Xy2 := fun o => Lib.cell?_alloc_some o y2; have Xy3 := fun o => Lib.cell?_alloc_some o y3
    clear b6
    obtain ⟨z0, z1, z2, z3, z4, z5, z6, zf⟩ := cells7 Ex.out
    have hA : n ≤ 60 := by omega
    go_loopw [34] (fun i wr => ∃ j : Nat, j ≤ n ∧ i = .int .i64 j ∧ Below wX.heap.size wX wr) (fun i _ => n - (intOf i).toNat)
    case atStart => exact ⟨0, Nat.zero_le _, rfl, Below.refl _ _⟩
    case round =>
      obtain ⟨j, hj, rfl, hR⟩ := hrel
      have HR := Lib.hid hR
      have C6 := fun (p : Addr) (v : Value) (h : wX.cell? p = some v) => (hR.cell (World.block_lt_of_cell? wX p h)).trans h
      have y0' := C6 _ _ y0
      have y1' := C6 _ _ y1
      have y2' := C6 _ _ y2
      have y3' := C6 _ _ y3
      have z0' := C6 _ _ z0
      by_cases hlt : j < n
      · have hlt2 : (j : Int) < (n : Int) := by omega
        obtain ⟨b1, f1, rfl, v1⟩ := Lx.2.at_ hlt
        obtain ⟨b2, f2, rfl, v2⟩ := Lk.at_ hlt
        obtain ⟨p0, p1, p2, p3⟩ := (v1 j hlt).below hR
        obtain ⟨q0, q1, q2, q3⟩ := (v2 j hlt).below hR
        have hg := hget.out j hlt
        clear v1 v2 hR C6
        by_cases hja : (j : Int) = a1
        · rw [if_pos hja] at hg
          rw [hg] at p0 p1 p2 p3
          have e1 : ((j : Int) != a1) = false := by rw [hja]; simp
          have e2 : ((j : Int) == a1) = true := by rw [hja]; simp
          clear hg hja
          generalize s.sure.getD j V.z = q at *
          go_wp2
          go_quiet (fail)
          go_wp2
          go_roundw
          case rel => exact ⟨j + 1, by omega, by go_num, Below.drewN' HR.out _⟩
          case measure => simp [intOf]; omega
        · rw [if_neg hja] at hg
          rw [hg] at p0 p1 p2 p3
          have e1 : ((j : Int) != a1) = true := by rw [bne_iff_ne]; exact hja
          have e2 : ((j : Int) == a1) = false := by rw [beq_eq_false_iff_ne]; exact hja
          clear hg hja
          generalize s.sure.getD j V.z = q at *
          go_wp2
          go_quiet (fail)
          go_wp2
          go_roundw
          case rel => exact ⟨j + 1, by omega, by go_num, Below.drewN' HR.out _⟩
          case measure => simp [intOf]; omega
      · have hlt2 : (n : Int) ≤ (j : Int) := by omega
        replace La := La.below hR; replace Lk := Lk.below hR; replace Es := Lib.hid ((hR.block _ (Array.getElem?_eq_some_iff.1 Es.out).1).trans Es.out); replace Ev := Lib.hid ((hR.block _ (Array.getElem?_eq_some_iff.1 Ev.out).1).trans Ev.out); replace Ex := Lib.hid ((hR.block _ (Array.getElem?_eq_some_iff.1 Ex.out).1).trans Ex.out); replace B := Below.then B hR; clear y0' y1' y2' y3' z0' C6 x0 x1 x2 x3 x4 x5 x6 xf y0 y1 y2 y3 yf Xx0 Xx1 Xx2 Xx3 Xx4 Xx5 Xx6 Xy0 Xy1 Xy2 Xy3 z0 z1 z2 z3 z4 z5 z6 zf; clear hR HR; obtain ⟨x0, x1, x2, x3, x4, x5, x6, xf⟩ := cells7 Es.out; have Xx0 := fun o => Lib.cell?_alloc_some o x0; have Xx1 := fun o => Lib.cell?_alloc_some o x1; have Xx2 := fun o => Lib.cell?_alloc_some o x2; have Xx3 := fun o => Lib.cell?_alloc_some o x3; have Xx4 := fun o => Lib.cell?_alloc_some o x4; have Xx5 := fun o => Lib.cell?_alloc_some o x5; have Xx6 := fun o => Lib.cell?_alloc_some o x6; obtain ⟨y0, y1, y2, y3, yf⟩ := cells4 Ev.out; have Xy0 := fun o => Lib.cell?_alloc_some o y0; have Xy1 := fun o => Lib.cell?_alloc_some o y1; have Xy2 := fun o => Lib.cell?_alloc_some o y2; have Xy3 := fun o => Lib.cell?_alloc_some o y3
        go_wp2_with (go_at_call 15; refine (h5 _ La).mono ?_; rintro e w4 ⟨rfl, _, b6⟩; replace Es := Lib.hid ((b6.block _ (Array.getElem?_eq_some_iff.1 Es.out).1).trans Es.out); replace Ev := Lib.hid ((b6.block _ (Array.getElem?_eq_some_iff.1 Ev.out).1).trans Ev.out); (try replace La := La.below b6); (try replace Lk := Lk.below b6); replace B := Below.then B b6; clear x0 x1 x2 x3 x4 x5 x6 xf Xx0 Xx1 Xx2 Xx3 Xx4 Xx5 Xx6 y0 y1 y2 y3 yf Xy0 Xy1 Xy2 Xy3; obtain ⟨x0, x1, x2, x3, x4, x5, x6, xf⟩ := cells7 Es.out; have Xx0 := fun o => Lib.cell?_alloc_some o x0; have Xx1 := fun o => Lib.cell?_alloc_some o x1; have Xx2 := fun o => Lib.cell?_alloc_some o x2; have Xx3 := fun o => Lib.cell?_alloc_some o x3; have Xx4 := fun o => Lib.cell?_alloc_some o x4; have Xx5 := fun o => Lib.cell?_alloc_some o x5; have Xx6 := fun o => Lib.cell?_alloc_some o x6; obtain ⟨y0, y1, y2, y3, yf⟩ := cells4 Ev.out; have Xy0 := fun o => Lib.cell?_alloc_some o y0; have Xy1 := fun o => Lib.cell?_alloc_some o y1; have Xy2 := fun o => Lib.cell?_alloc_some o y2; have Xy3 := fun o => Lib.cell?_alloc_some o y3; clear b6)
        have b6 := alloc1_below w4 (.cells #[.slice a n cap, .bool sb.going, .int .i64 sb.at_, .int .u32 sb.next.a, .int .u32 sb.next.b, .int .u32 sb.next.c, .int .u32 sb.next.d] 28)
        have Ey := Lib.hid (heap_alloc_new w4 (.cells #[.slice a n cap, .bool sb.going, .int .i64 sb.at_, .int .u32 sb.next.a, .int .u32 sb.next.b, .int .u32 sb.next.c, .int .u32 sb.next.d] 28))
        generalize w4.alloc (.cells #[.slice a n cap, .bool sb.going, .int .i64 sb.at_, .int .u32 sb.next.a, .int .u32 sb.next.b, .int .u32 sb.next.c, .int .u32 sb.next.d] 28) = wY at *
        replace La := La.below b6; replace Lk := Lk.below b6; replace Es := Lib.hid ((b6.block _ (Array.getElem?_eq_some_iff.1 Es.out).1).trans Es.out); replace B := Below.then B b6; clear x0 x1 x2 x3 x4 x5 x6 xf Xx0 Xx1 Xx2 Xx3 Xx4 Xx5 Xx6 y0 y1 y2 y3 yf Xy0 Xy1 Xy2 Xy3; obtain ⟨x0, x1, x2, x3, x4, x5, x6, xf⟩ := cells7 Es.out; obtain ⟨z0, z1, z2, z3, z4, z5, z6, zf⟩ := cells7 Ey.out
        replace La : Stands wY a n cap (calm s.sure) := ⟨La.1, La.2⟩
        replace Lk : Stands wY ak n kk (calm s.sure) := ⟨La.1, Lk⟩
        clear b6 h5 hget HD HB hdl Ev
        go_wp2_with (go_at_call 12; refine (Any9.same_r (s := calm s.sure) (⟨La.1, La.2.below (by first | exact Below.refl _ _ | exact below_drew _)⟩) (⟨La.1, Lk.2.below (by first | exact Below.refl _ _ | exact below_drew _)⟩)).mono ?_; rintro e w6 ⟨rfl, b6⟩; (try replace b6 := undrew b6); replace La := La.below b6; replace Lk := Lk.below b6; replace B := Below.then B b6; replace Es := Lib.hid ((b6.block _ (Array.getElem?_eq_some_iff.1 Es.out).1).trans Es.out); replace Ey := Lib.hid ((b6.block _ (Array.getElem?_eq_some_iff.1 Ey.out).1).trans Ey.out); clear x0 x1 x2 x3 x4 x5 x6 xf z0 z1 z2 z3 z4 z5 z6 zf; obtain ⟨x0, x1, x2, x3, x4, x5, x6, xf⟩ := cells7 Es.out; obtain ⟨z0, z1, z2, z3, z4, z5, z6, zf⟩ := cells7 Ey.out; clear b6)
        all_goals
          go_ret
          exact ⟨rfl, B⟩
end L09Apart
end Go.Proofs.Ytlfabajceflpdaa
