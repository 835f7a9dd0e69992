/- Contracts of the reference of package model: Done, Begun, May, Seen, New. -/
import Derived.Test.YtlfabajceflpdaaRef9
namespace Go.Proofs.Ytlfabajceflpdaa
open Go.RowKit Md
set_option linter.unusedVariables false
attribute [local go_sem] max2_int min2_int max_two min_two Sec.eqx Sec.guardx
theorem OwnsV.alloc {w : World} {B n : Nat} {v : Value} {l : List V} (h : OwnsV w B v n l) (o : Obj) : OwnsV (w.alloc o) B v n l := World.ownsRow.alloc h o
theorem lv_box (w : World) (v : V) : Lv (w.alloc (.cells #[.int .u32 v.a, .int .u32 v.b, .int .u32 v.c, .int .u32 v.d] 24)) (some ⟨w.heap.size, 0, none⟩) 1 1 [v] := by
  refine ⟨rfl, Nat.le_refl _, .inr ⟨_, rfl, fun i hi => ⟨w.heap.size, 0, rfl, ?_⟩⟩⟩
  obtain rfl : i = 0 := by omega
  obtain ⟨e0, e1, e2, e3, _⟩ := cells4 (heap_alloc_new w (.cells #[.int .u32 v.a, .int .u32 v.b, .int .u32 v.c, .int .u32 v.d] 24))
  exact ⟨e0, e1, e2, e3⟩
theorem below_own {w0 w w' : World} {B n : Nat} {v : Value} {l : List V} (hb : Below B w0 w) (hB : B ≤ w.heap.size) (h : OwnsV w B v n l) (o : Obj) (g : (w.alloc o).grownBy w' v.ownBlock) : Below B w0 w' :=
  (hb.alloc hB o).grown g (by simp; omega) (fun k hk => (World.ownsRow.lt h k hk).1)
theorem take_snoc (l : List V) (j : Nat) (h : j < l.length) : l.take (j + 1) = l.take j ++ [l.getD j V.z] := by
  rw [List.take_succ_eq_append_getElem h]; simp [List.getD, h]
theorem size3 (w : World) (o1 o2 o3 : Obj) : (((w.alloc o1).alloc o2).alloc o3).heap.size = w.heap.size + 3 := by simp
namespace Ref9
set_option maxHeartbeats 400000 in
set_option maxRecDepth 100000 in
theorem begun_c {w : World} {a : Option Addr} {n cap : Nat} {s : St} (hl : Lv w a n cap s.sure) (hn : n ≤ 2000) (x : Int) (v : V) :
    Calls Try.prog 16 #[stv a n cap s, .int .i64 x, vv v] w fun e w' => e = .returned (stv a n cap (Md.begun s x v)) ∧ Below w.heap.size w w' := by
  have h1 := hl.len
  have h2 : (n : Int) ≤ 2000 := by omega
  unfold stv vv at *
  cases hh : has s x with
  | false =>
    have hd : Md.begun s x v = s := by unfold Md.begun; rw [hh]; rfl
    rw [hd]
    rcases has_false hh with h | h
    all_goals
      rw [h1] at *
      clear hh hd
      go_enter Try.func16, Try.ntmps16
      go_wp2
      refine bodyPost_ret (v := .agg #[.slice a n cap, .bool s.going, .int .i64 s.at_, .int .u32 s.next.a, .int .u32 s.next.b, .int .u32 s.next.c, .int .u32 s.next.d]) ?_ rfl ⟨rfl, ?_⟩
      · simp [results, Try.results16, go_sem]
      · repeat (first | exact Below.refl _ _ | apply below_al)
  | true =>
    obtain ⟨k, rfl, hk⟩ := has_true hh
    have hd : Md.begun s k v = { s with going := true, at_ := k, next := v } := by unfold Md.begun; rw [hh]; rfl
    rw [hd]
    have hk2 : (k : Int) < (n : Int) := by omega
    clear hh hd
    go_enter Try.func16, Try.ntmps16
    go_wp2
    refine bodyPost_ret (v := .agg #[.slice a n cap, .bool true, .int .i64 k, .int .u32 v.a, .int .u32 v.b, .int .u32 v.c, .int .u32 v.d]) ?_ rfl ⟨rfl, ?_⟩
    · simp [results, Try.results16, go_sem]
    · repeat (first | exact Below.refl _ _ | apply below_al)
set_option maxHeartbeats 1000000 in
set_option maxRecDepth 100000 in
theorem done_c {w : World} {a : Option Addr} {n cap : Nat} {s : St} (hl : Lv w a n cap s.sure) (hn : n ≤ 2000) (x : Int) (v : V) :
    Calls Try.prog 14 #[stv a n cap s, .int .i64 x, vv v] w fun e w' => ∃ a' cap', e = .returned (stv a' n cap' (Md.done s x v)) ∧ Lv w' a' n cap' (Md.done s x v).sure ∧ Below w.heap.size w w' := by
  have h1 := hl.len
  have h2 : (n : Int) ≤ 2000 := by omega
  unfold stv vv at *
  cases hh : has s x with
  | false =>
    have hd : Md.done s x v = s := by unfold Md.done; rw [hh]; rfl
    rw [hd]
    have hf := has_false hh
    rw [h1] at hf
    rcases hf with h | h
    all_goals
      clear hh hd
      go_enter Try.func14, Try.ntmps14
      go_wp2
      refine bodyPost_ret (v := .agg #[.slice a n cap, .bool s.going, .int .i64 s.at_, .int .u32 s.next.a, .int .u32 s.next.b, .int .u32 s.next.c, .int .u32 s.next.d]) ?_ rfl ⟨a, cap, rfl, ?_, ?_⟩
      · simp [results, Try.results14, go_sem]
      · exact hl.below (by repeat (first | exact Below.refl _ _ | apply below_al))
      · repeat (first | exact Below.refl _ _ | apply below_al)
  | true =>
    obtain ⟨k, rfl, hk⟩ := has_true hh
    have hd : Md.done s k v = calm (s.sure.set k v) := by unfold Md.done; rw [hh]; rfl
    rw [hd]
    have hk2 : (k : Int) < (n : Int) := by omega
    have HS : Hid ((s.sure.set k v).length = n) := by show _ = _; rw [List.length_set]; exact h1
    have d1 : decide ((k : Int) < 0) = false := decide_eq_false (by omega)
    have d2 : decide (n ≤ k) = false := decide_eq_false (by omega)
    clear hh hd hk h1
    go_enter Try.func14, Try.ntmps14
    go_wp2
    go_loopw [7, 8] (fun u i wr => ∃ j : Nat, j ≤ n ∧ i = .int .i64 j ∧ OwnsV wr (w.heap.size + 3) u j ((s.sure.set k v).take j) ∧ ∃ o1 o2 o3, Hid (o1 = .cells #[.slice a n cap, .bool s.going, .int .i64 s.at_, .int .u32 s.next.a, .int .u32 s.next.b, .int .u32 s.next.c, .int .u32 s.next.d] 26 (0, 0) ∧ o2 = .cells #[.int .u32 v.a, .int .u32 v.b, .int .u32 v.c, .int .u32 v.d] 24 (0, 0) ∧ o3 = .cells #[.slice none 0 0, .bool false, .int .i64 0, .int .u32 0, .int .u32 0, .int .u32 0, .int .u32 0] 26 (0, 0)) ∧ Below (w.heap.size + 3) (((w.alloc o1).alloc o2).alloc o3) wr) (fun _ i _ => n - (intOf i).toNat)
    case atStart => exact ⟨0, Nat.zero_le _, rfl, World.ownsRow_nil _ _ _ _, _, _, _, ⟨rfl, rfl, rfl⟩, Below.refl _ _⟩
    case round =>
      obtain ⟨j, hj, rfl, hO, o1, o2, o3, ⟨rfl, rfl, rfl⟩, hB⟩ := hrel
      obtain ⟨e0, e1, e2, b2⟩ := alloc3_then (hB.mono (Nat.le_of_eq (size3 w _ _ _)))
      obtain ⟨x0, x1, x2, x3, x4, x5, x6, x7⟩ := cells7 e0
      obtain ⟨y0, y1, y2, y3, y4⟩ := cells4 e1
      obtain ⟨z0, z1, z2, z3, z4, z5, z6, z7⟩ := cells7 e2
      have E2 := Lib.hid e2
      clear e0 e1 e2
      have HB := Lib.hid hB
      have hsz : w.heap.size + 3 ≤ wr.heap.size := by have := hB.size; simp at this; omega
      clear hB
      by_cases hlt : j < n
      · obtain ⟨b1, f1, rfl, v1⟩ := hl.at_ hlt
        obtain ⟨p0, p1, p2, p3⟩ := (v1 j hlt).below b2
        have hlt2 : (j : Int) < (n : Int) := by omega
        clear v1
        by_cases hjk : j = k
        · subst hjk
          have hT : Hid ((s.sure.set j v).take (j + 1) = (s.sure.set j v).take j ++ [v]) := by
            have := take_snoc (s.sure.set j v) j (by rw [HS.out]; exact hlt)
            rw [Md.getD_set, if_pos ⟨rfl, by have := hl.len; omega⟩] at this
            exact this
          generalize s.sure.getD j V.z = p at *
          go_wp2_with (at_builtin; refine append_v (by go_simp) _ _ rfl (w.heap.size + 3) _ j _ rfl (hO.alloc _) rfl (lv_box _ v) (by omega) (by simp; omega) ?_; intro u' w1 o1 g1 _; have B1 := Lib.hid (below_own HB.out hsz hO _ g1); rw [← hT.out] at o1; clear hO b2)
          go_roundw
          case rel => first | exact ⟨j + 1, by omega, by go_num, o1, _, _, _, ⟨rfl, rfl, rfl⟩, B1.out⟩ | ((repeat apply Exists.intro); exact ⟨⟨j + 1, by omega, by go_num, o1, _, _, _, ⟨rfl, rfl, rfl⟩, B1.out⟩, rfl⟩)
          case measure => simp [intOf]; omega
        · have hjk2 : ((j : Int) == (k : Int)) = false := by rw [beq_eq_false_iff_ne]; omega
          have hT : Hid ((s.sure.set k v).take (j + 1) = (s.sure.set k v).take j ++ [s.sure.getD j V.z]) := by
            have := take_snoc (s.sure.set k v) j (by rw [HS.out]; exact hlt)
            rw [Md.getD_set, if_neg (fun h => hjk h.1.symm)] at this
            exact this
          clear hjk
          generalize s.sure.getD j V.z = p at *
          go_wp2_with (at_builtin; refine append_v (by go_simp) _ _ rfl (w.heap.size + 3) _ j _ rfl (hO.alloc _) rfl (lv_box _ p) (by omega) (by simp; omega) ?_; intro u' w1 o1 g1 _; have B1 := Lib.hid (below_own HB.out hsz hO _ g1); rw [← hT.out] at o1; clear hO b2)
          go_roundw
          case rel => first | exact ⟨j + 1, by omega, by go_num, o1, _, _, _, ⟨rfl, rfl, rfl⟩, B1.out⟩ | ((repeat apply Exists.intro); exact ⟨⟨j + 1, by omega, by go_num, o1, _, _, _, ⟨rfl, rfl, rfl⟩, B1.out⟩, rfl⟩)
          case measure => simp [intOf]; omega
      · obtain rfl : j = n := by omega
        have hlt2 : (j : Int) ≤ (j : Int) := Int.le_refl _
        rw [List.take_of_length_le (by rw [HS.out]; exact Nat.le_refl _)] at hO
        obtain ⟨a', kap', rfl, L2, hge⟩ := OwnsV.lv hO
        have HG := Lib.hid hge
        clear hO hge
        go_wp2_with (refine bodyPost_ret (retR rfl _ _ _ _ rfl (put7 E2.out _ _ _ _ _ _ _) rfl) rfl ?_; exact ⟨_, _, rfl, L2.same fun ad e => put7_away (by have := HG.out ad e; omega) _ _ _ _ _ _ _, put7_below b2 (by omega) _ _ _ _ _ _ _⟩)
end Ref9
end Go.Proofs.Ytlfabajceflpdaa
