/- Contracts of package model (3): Begun, May. -/
import Derived.Test.YtlfabajceflpdaaMod2
import Derived.RegionTactic
import Derived.ChangeAlike
import Derived.BigRegion
namespace Go.Proofs.Ytlfabajceflpdaa
open Go.RowKit Md
set_option linter.unusedVariables false
attribute [local go_sem] max2_int min2_int max_two min_two Sec.eqx Sec.guardx
namespace Mod
set_option maxHeartbeats 400000 in
set_option maxRecDepth 100000 in
theorem begun_c {w : World} {a : Option Addr} {n cap : Nat} {s : St} (hl : Lv w a n cap s.sure) (hn : n ≤ 2000) (x : Int) (v : V) :
    Calls Try.prog 15 #[stv a n cap s, .int .i64 x, vv v] w fun e w' => e = .returned (stv a n cap (Md.begun s x v)) ∧ Below w.heap.size w w' := by
  have h1 := hl.len
  have h2 : (n : Int) ≤ 2000 := by omega
  have hc : ∀ W, Below w.heap.size w W → Calls Try.prog 23 #[stv a n cap s, .int .i64 x] W fun e w' => e = .returned (.bool (has s x)) ∧ W.alloc (sbox a n cap s) = w' := fun W hb => has_c (hl.below hb) hn x
  unfold stv vv sbox at *
  cases hh : has s x with
  | false =>
    have hd : Md.begun s x v = s := by unfold Md.begun; rw [hh]; rfl
    rw [hd]
    rw [hh] at hc
    go_enter Try.func15, Try.ntmps15
    go_wp2_with (go_at_call 23; refine (hc _ (alloc3_below _ _ _ _)).mono ?_; rintro e w1 ⟨rfl, rfl⟩; clear hc)
    refine bodyPost_ret (v := .agg #[.slice a n cap, .bool s.going, .int .i64 s.at_, .int .u32 s.next.a, .int .u32 s.next.b, .int .u32 s.next.c, .int .u32 s.next.d]) ?_ rfl ⟨rfl, ?_⟩
    · simp [results, Try.results15, go_sem]
    · repeat (first | exact Below.refl _ _ | apply below_al)
  | true =>
    have hd : Md.begun s x v = { s with going := true, at_ := x, next := v } := by unfold Md.begun; rw [hh]; rfl
    rw [hd]
    rw [hh] at hc
    go_enter Try.func15, Try.ntmps15
    go_wp2_with (go_at_call 23; refine (hc _ (alloc3_below _ _ _ _)).mono ?_; rintro e w1 ⟨rfl, rfl⟩; clear hc)
    go_region
    go_wp2_with fail
    refine bodyPost_ret (v := .agg #[.slice a n cap, .bool true, .int .i64 x, .int .u32 v.a, .int .u32 v.b, .int .u32 v.c, .int .u32 v.d]) ?_ rfl ⟨rfl, ?_⟩
    · simp [results, Try.results15, go_sem]
    · refine Below.drew ?_
      repeat (first | exact Below.refl _ _ | apply below_al)
theorem lv_set {w : World} {a : Option Addr} {n cap : Nat} {l : List V} (h : Lv w a n cap l) {m : Nat} (e : m = n) : Lv w a m cap l := e ▸ h
set_option maxHeartbeats 400000 in
set_option maxRecDepth 100000 in
theorem may_c {w : World} {a b : Option Addr} {n cap m kap : Nat} {s : St} {l : List V} (hl : Lv w a n cap s.sure) (hk : Lv w b m kap l) (hn : n ≤ 2000) (hm : m ≤ 2000) :
    Calls Try.prog 17 #[stv a n cap s, .slice b m kap] w fun e w' => e = .returned (.bool (may s l)) ∧ Below w.heap.size w w' := by
  have h1 := hl.len
  have h2 : (n : Int) ≤ 2000 := by omega
  cases he : decide (l = s.sure) with
  | true =>
    have q : may s l = true := by unfold may; rw [he]; rfl
    rw [q]
    unfold stv
    go_enter Try.func17, Try.ntmps17
    go_wp2_with (go_at_call 24; refine (equal_c (hk.below (alloc1_below _ _)) (hl.below (alloc1_below _ _)) hm hn).mono ?_; rw [he]; rintro e w1 ⟨rfl, b1⟩; replace b1 := Below.then (alloc1_below _ _) b1)
    go_ret
    exact ⟨rfl, b1⟩
  | false =>
    have q : may s l = (s.going && (has s s.at_ && decide (l = s.sure.set s.at_.toNat s.next))) := by unfold may; rw [he]; rfl
    rw [q]
    clear q
    have hcc : ∀ W, Below w.heap.size w W → Calls Try.prog 23 #[stv a n cap s, .int .i64 s.at_] W fun e w' => e = .returned (.bool (has s s.at_)) ∧ Below W.heap.size W w' := fun W hb => (has_c (hl.below hb) hn s.at_).mono fun e w' ⟨he, hw⟩ => ⟨he, hw ▸ alloc1_below _ _⟩
    unfold stv at *
    have hE1 : ∀ o, Calls Try.prog 24 #[.slice b m kap, .slice a n cap] (w.alloc o) fun e w' => e = .returned (.bool false) ∧ Below (w.alloc o).heap.size (w.alloc o) w' := fun o => by
      have := equal_c (hk.below (alloc1_below w o)) (hl.below (alloc1_below w o)) hm hn
      rw [he] at this
      exact this
    clear he
    cases hg : s.going with
    | false =>
      rw [hg] at hcc
      go_enter Try.func17, Try.ntmps17
      go_wp2_with (go_at_call 24; refine (hE1 _).mono ?_; rintro e w1 ⟨rfl, b1⟩; clear hE1; obtain ⟨e0, b2⟩ := alloc1_then b1; clear b1; obtain ⟨x0, x1, x2, x3, x4, x5, x6, x7⟩ := cells7 e0; have E0 := Lib.hid e0; clear e0)
      go_ret
      exact ⟨rfl, b2⟩
    | true =>
      rw [hg] at hcc
      cases hh : has s s.at_ with
      | false =>
        rw [hh] at hcc
        go_enter Try.func17, Try.ntmps17
        go_wp2_with (first | (go_at_call 24; refine (hE1 _).mono ?_; rintro e w1 ⟨rfl, b1⟩; clear hE1; obtain ⟨e0, b2⟩ := alloc1_then b1; clear b1; obtain ⟨x0, x1, x2, x3, x4, x5, x6, x7⟩ := cells7 e0; have E0 := Lib.hid e0; clear e0) | (go_at_call 23; refine (hcc _ b2).mono ?_; rintro e w2 ⟨rfl, b3⟩; clear hcc; have E1 := Lib.hid ((b3.block _ (Array.getElem?_eq_some_iff.1 E0.out).1).trans E0.out); replace b2 := Below.then b2 b3; clear b3 x0 x1 x2 x3 x4 x5 x6 x7; obtain ⟨x0, x1, x2, x3, x4, x5, x6, x7⟩ := cells7 E1.out))
        go_ret
        exact ⟨rfl, b2⟩
      | true =>
        rw [hh] at hcc
        have hd : Md.done s s.at_ s.next = calm (s.sure.set s.at_.toNat s.next) := by unfold Md.done; rw [hh]; rfl
        have hdc : ∀ W, Below w.heap.size w W → Calls Try.prog 13 #[stv a n cap s, .int .i64 s.at_, vv s.next] W fun e w' => ∃ a' cap', e = .returned (stv a' n cap' (calm (s.sure.set s.at_.toNat s.next))) ∧ Lv w' a' n cap' (s.sure.set s.at_.toNat s.next) ∧ Below W.heap.size W w' := fun W hb => by
          have := done_c (hl.below hb) hn s.at_ s.next
          rw [hd] at this
          exact this
        clear hd hh
        have hfm := fieldM
        unfold stv vv at hdc
        rw [hg] at hdc
        go_enter Try.func17, Try.ntmps17
        go_wp2_with (first | (go_at_call 24; refine (hE1 _).mono ?_; rintro e w1 ⟨rfl, b1⟩; clear hE1; obtain ⟨e0, b2⟩ := alloc1_then b1; clear b1; obtain ⟨x0, x1, x2, x3, x4, x5, x6, x7⟩ := cells7 e0; have E0 := Lib.hid e0; clear e0) | (go_at_call 23; refine (hcc _ b2).mono ?_; rintro e w2 ⟨rfl, b3⟩; clear hcc; have E1 := Lib.hid ((b3.block _ (Array.getElem?_eq_some_iff.1 E0.out).1).trans E0.out); replace b2 := Below.then b2 b3; clear b3 x0 x1 x2 x3 x4 x5 x6 x7; obtain ⟨x0, x1, x2, x3, x4, x5, x6, x7⟩ := cells7 E1.out) | (go_at_call 13; refine (hdc _ b2).mono ?_; rintro e w3 ⟨a', cap', rfl, L3, b3⟩; clear hdc; replace b2 := Below.then b2 b3; clear b3) | (go_at_call 24; refine (equal_c (hk.below b2) L3 hm hn).mono ?_; rintro e w4 ⟨rfl, b4⟩; replace b2 := Below.then b2 b4))
        go_ret
        exact ⟨rfl, b2⟩
end Mod
end Go.Proofs.Ytlfabajceflpdaa
