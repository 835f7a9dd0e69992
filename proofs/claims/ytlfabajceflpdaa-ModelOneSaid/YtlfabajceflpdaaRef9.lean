/- Contracts of the reference of package model: Same. -/
import Derived.Test.YtlfabajceflpdaaMod4
namespace Go.Proofs.Ytlfabajceflpdaa
open Go.RowKit Md
set_option linter.unusedVariables false
attribute [local go_sem] max2_int min2_int max_two min_two Sec.eqx Sec.guardx
namespace Ref9
set_option maxHeartbeats 400000 in
set_option maxRecDepth 100000 in
theorem same_c {w : World} {a b : Option Addr} {n cap kap : Nat} {s : St} (hl : Lv w a n cap s.sure) (hk : Lv w b n kap s.sure) (hn : n ≤ 2000) :
    Calls Try.prog 12 #[stv a n cap s, stv b n kap s] w fun e w' => e = .returned (.bool true) ∧ Below w.heap.size w w' := by
  have h3 : (n : Int) ≤ 2000 := by omega
  unfold stv
  go_enter Try.func12, Try.ntmps12
  go_wp2
  go_loopw [5] (fun i wr => ∃ j : Nat, j ≤ n ∧ i = .int .i64 j ∧ ∃ o1 o2, Hid (o1 = .cells #[.slice a n cap, .bool s.going, .int .i64 s.at_, .int .u32 s.next.a, .int .u32 s.next.b, .int .u32 s.next.c, .int .u32 s.next.d] 26 (0, 0) ∧ o2 = .cells #[.slice b n kap, .bool s.going, .int .i64 s.at_, .int .u32 s.next.a, .int .u32 s.next.b, .int .u32 s.next.c, .int .u32 s.next.d] 26 (0, 0)) ∧ Below ((w.alloc o1).alloc o2).heap.size ((w.alloc o1).alloc o2) wr) (fun i _ => n - (intOf i).toNat)
  case atStart => exact ⟨0, Nat.zero_le _, rfl, _, _, ⟨rfl, rfl⟩, Below.refl _ _⟩
  case round =>
    obtain ⟨j, hj, rfl, o1, o2, ⟨rfl, rfl⟩, hB⟩ := hrel
    obtain ⟨e0, e1, b2⟩ := alloc2_then hB
    obtain ⟨x0, x1, x2, x3, x4, x5, x6, x7⟩ := cells7 e0
    obtain ⟨y0, y1, y2, y3, y4, y5, y6, y7⟩ := cells7 e1
    clear e0 e1
    have HB := Lib.hid hB
    clear hB
    by_cases hlt : j < n
    · obtain ⟨b1, o1, rfl, v1⟩ := hl.at_ hlt
      obtain ⟨b3, o2, rfl, v2⟩ := hk.at_ hlt
      obtain ⟨p0, p1, p2, p3⟩ := (v1 j hlt).below b2
      obtain ⟨q0, q1, q2, q3⟩ := (v2 j hlt).below b2
      have hlt2 : (j : Int) < (n : Int) := by omega
      clear v1 v2 b2
      generalize s.sure.getD j V.z = p at *
      go_wp2
      go_quiet (fail)
      go_wp2
      go_roundw
      case rel => exact ⟨j + 1, by omega, by go_num, _, _, ⟨rfl, rfl⟩, Below.drewN' HB.out _⟩
      case measure => simp [intOf]; omega
    · have hlt2 : (n : Int) ≤ (j : Int) := by omega
      clear x1 x2 x3 x4 x5 x6 x7 y1 y2 y3 y4 y5 y6 y7
      go_wp2
      go_ret
      exact ⟨rfl, b2⟩
end Ref9
end Go.Proofs.Ytlfabajceflpdaa
