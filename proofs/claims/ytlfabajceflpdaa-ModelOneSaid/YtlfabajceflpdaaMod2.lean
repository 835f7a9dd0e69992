/- Contracts of package model (2). -/
import Derived.Test.YtlfabajceflpdaaMod
import Derived.Test.YtlfabajceflpdaaBox
import Derived.Laws.OwnMore
namespace Go.Proofs.Ytlfabajceflpdaa
open Go.RowKit Md
set_option linter.unusedVariables false
attribute [local go_sem] max2_int min2_int max_two min_two Sec.eqx Sec.guardx
namespace Mod
theorem stv_calm (a : Option Addr) (n cap : Nat) (l : List V) : stv a n cap (calm l) = .agg #[.slice a n cap, .bool false, .int .i64 0, .int .u32 0, .int .u32 0, .int .u32 0, .int .u32 0] := rfl
set_option maxHeartbeats 400000 in
set_option maxRecDepth 100000 in
theorem done_c {w : World} {a : Option Addr} {n cap : Nat} {s : St} (hl : Lv w a n cap s.sure) (hn : n ≤ 2000) (x : Int) (v : V) :
    Calls Try.prog 13 #[stv a n cap s, .int .i64 x, vv v] w fun e w' => ∃ a' cap', e = .returned (stv a' n cap' (done s x v)) ∧ Lv w' a' n cap' (done s x v).sure ∧ Below w.heap.size w w' := by
  have h1 := hl.len
  have h2 : (n : Int) ≤ 2000 := by omega
  have hc : ∀ W, Below w.heap.size w W → Calls Try.prog 23 #[stv a n cap s, .int .i64 x] W fun e w' => e = .returned (.bool (has s x)) ∧ W.alloc (sbox a n cap s) = w' := fun W hb => has_c (hl.below hb) hn x
  unfold stv vv sbox at *
  cases hh : has s x with
  | false =>
    have hd : done s x v = s := by unfold done; rw [hh]; rfl
    rw [hd]
    rw [hh] at hc
    go_enter Try.func13, Try.ntmps13
    go_wp2_with (go_at_call 23; refine (hc _ (alloc3_below _ _ _ _)).mono ?_; rintro e w1 ⟨rfl, rfl⟩; clear hc)
    refine bodyPost_ret (v := .agg #[.slice a n cap, .bool s.going, .int .i64 s.at_, .int .u32 s.next.a, .int .u32 s.next.b, .int .u32 s.next.c, .int .u32 s.next.d]) ?_ rfl ⟨a, cap, rfl, ?_, ?_⟩
    · simp [results, Try.results13, go_sem]
    · exact hl.below (by repeat (first | exact Below.refl _ _ | apply below_al))
    · repeat (first | exact Below.refl _ _ | apply below_al)
  | true =>
    obtain ⟨k, rfl, hk⟩ := has_true hh
    have hd : done s k v = calm (s.sure.set k v) := by unfold done; rw [hh]; rfl
    rw [hd]
    rw [hh] at hc
    have hk2 : (k : Int) < (n : Int) := by omega
    go_enter Try.func13, Try.ntmps13
    go_wp2_with (first | (go_at_call 23; refine (hc _ (alloc3_below _ _ _ _)).mono ?_; rintro e w1 ⟨rfl, rfl⟩; clear hc) | (go_at_call 22; refine (clone_c (hl.below (alloc4_below _ _ _ _ _)) hn).mono ?_; rintro e w2 ⟨v2, rfl, o2, b3⟩; obtain ⟨g, cap2, cur, rfl, hg, G⟩ := o2.gv (by omega); obtain ⟨gf, u0, u1, u2, u3, z0, z1, z2, z3⟩ := G.cells (k := k) (by omega); obtain ⟨e0, e1, e2, b4⟩ := alloc4_then b3; obtain ⟨v0, v1, v2, v3, _⟩ := cells4 e1; obtain ⟨y0, y1, y2, y3, y4, y5, y6, y7⟩ := cells7 e2; have E2 := Lib.hid e2; have B4 := Lib.hid b4; have GG := Lib.hid G; clear e0 e1 e2 b3 b4 o2 G; have hg2 : w.heap.size + 4 ≤ g := (by simpa using hg); clear hg; have n1 : ¬ g = w.heap.size + 1 + 1 := (by omega); have n2 : ¬ w.heap.size + 1 + 1 = g := (by omega)) | (refine bodyPost_ret (retM rfl _ _ _ _ rfl (put7 (put4_other E2.out n2 _ _ _ _) _ _ _ _ _ _ _) rfl) rfl ?_; obtain ⟨cur', G2⟩ := GG.out.put (k := k) (by omega) v (put7_other (put4 GG.out.at_ _ _ _ _) n1 _ _ _ _ _ _ _); exact ⟨_, _, rfl, G2.lv, put7_below (put4_below B4.out (by omega) _ _ _ _) (by omega) _ _ _ _ _ _ _⟩))
end Mod
end Go.Proofs.Ytlfabajceflpdaa
