/- Contracts of the reference of package model: May, Seen, New. -/
import Derived.Test.YtlfabajceflpdaaRef92
namespace Go.Proofs.Ytlfabajceflpdaa
open Go.RowKit Md
set_option linter.unusedVariables false
attribute [local go_sem] max2_int min2_int max_two min_two Sec.eqx Sec.guardx
/-- What the document says of one sector. -/
def ok1 (s : St) (l : List V) (i : Nat) : Prop := l.getD i V.z = s.sure.getD i V.z ∨ (s.going = true ∧ (i : Int) = s.at_ ∧ l.getD i V.z = s.next)
theorem may_all {s : St} {l : List V} (h : l.length = s.sure.length) (g : ∀ i, i < l.length → ok1 s l i) : may s l = true := (may_iff s l).2 ⟨h, g⟩
theorem may_not {s : St} {l : List V} {i : Nat} (hi : i < l.length) (g : ¬ ok1 s l i) : may s l = false := by
  cases h : may s l
  · rfl
  · exact absurd (((may_iff s l).1 h).2 i hi) g
theorem may_len {s : St} {l : List V} (g : ¬ l.length = s.sure.length) : may s l = false := by
  cases h : may s l
  · rfl
  · exact absurd ((may_iff s l).1 h).1 g
namespace Ref9
set_option maxHeartbeats 2000000 in
set_option maxRecDepth 100000 in
theorem may_c {w : World} {a b : Option Addr} {n cap m kap : Nat} {s : St} {l : List V} (hl : Lv w a n cap s.sure) (hk : Lv w b m kap l) (hn : n ≤ 2000) (hm : m ≤ 2000) :
    Calls Try.prog 18 #[stv a n cap s, .slice b m kap] w fun e w' => e = .returned (.bool (may s l)) ∧ Below w.heap.size w w' := by
  have h1 := hl.len
  have h2 := hk.len
  have h3 : (n : Int) ≤ 2000 := by omega
  have h4 : (m : Int) ≤ 2000 := by omega
  unfold stv
  by_cases hnm : m = n
  · subst hnm
    have HA : Hid ((∀ i, i < m → ok1 s l i) → may s l = true) := fun g => may_all (by omega) (fun i hi => g i (by omega))
    have HN : Hid (∀ i, i < m → ¬ ok1 s l i → may s l = false) := fun i hi g => may_not (by omega) g
    have hm0 : may s l = may s l := rfl
    generalize hq : may s l = q at HA HN ⊢
    clear hq hm0 h1 h2
    go_enter Try.func18, Try.ntmps18
    go_wp2
    go_loopw [5] (fun i wr => ∃ j : Nat, j ≤ m ∧ i = .int .i64 j ∧ Hid (∀ i, i < j → ok1 s l i) ∧ ∃ o1, Hid (o1 = .cells #[.slice a m cap, .bool s.going, .int .i64 s.at_, .int .u32 s.next.a, .int .u32 s.next.b, .int .u32 s.next.c, .int .u32 s.next.d] 26 (0, 0)) ∧ Below (w.alloc o1).heap.size (w.alloc o1) wr) (fun i _ => m - (intOf i).toNat)
    case atStart => exact ⟨0, Nat.zero_le _, rfl, fun i hi => absurd hi (by omega), _, rfl, Below.refl _ _⟩
    case round =>
      obtain ⟨j, hj, rfl, HR, o1, rfl, hB⟩ := hrel
      obtain ⟨e0, b2⟩ := alloc1_then hB
      obtain ⟨x0, x1, x2, x3, x4, x5, x6, x7⟩ := cells7 e0
      clear e0
      have HB := Lib.hid hB
      have HB2 := Lib.hid b2
      clear hB
      by_cases hlt : j < m
      · obtain ⟨b1, f1, rfl, v1⟩ := hl.at_ hlt
        obtain ⟨b3, f3, rfl, v2⟩ := hk.at_ hlt
        obtain ⟨p0, p1, p2, p3⟩ := (v1 j hlt).below b2
        obtain ⟨q0, q1, q2, q3⟩ := (v2 j hlt).below b2
        have hlt2 : (j : Int) < (m : Int) := by omega
        have HO : Hid (ok1 s l j ↔ (l.getD j V.z = s.sure.getD j V.z ∨ (s.going = true ∧ (j : Int) = s.at_ ∧ l.getD j V.z = s.next))) := Iff.rfl
        clear v1 v2 b2
        generalize s.sure.getD j V.z = p at *
        generalize l.getD j V.z = r at *
        by_cases hpr : r = p
        · have hd : decide (r = p) = true := decide_eq_true hpr
          have HX : Hid (ok1 s l j) := HO.out.2 (.inl hpr)
          clear hpr HO
          go_wp2
          go_quiet (fail)
          go_wp2
          go_roundw
          case rel => exact ⟨j + 1, by omega, by go_num, fun i hi => (by by_cases e : i = j; exact e ▸ HX.out; exact HR.out i (by omega)), _, rfl, Below.drewN' HB.out _⟩
          case measure => simp [intOf]; omega
        · have hd : decide (r = p) = false := decide_eq_false hpr
          cases hg : s.going with
          | false =>
            have HX : Hid (¬ ok1 s l j) := fun h => by rcases HO.out.1 h with e | ⟨e, _⟩; exact hpr e; rw [hg] at e; cases e
            clear HO hpr
            rw [hg] at x1
            go_wp2
            go_quiet (fail)
            go_wp2
            go_ret
            exact ⟨by rw [HN.out j hlt HX.out]; rfl, Below.drewN' HB2.out _⟩
          | true =>
            rw [hg] at x1
            by_cases ha : (j : Int) = s.at_
            · have ha2 : ((j : Int) != s.at_) = false := by rw [ha]; simp
              by_cases hx : r = s.next
              · have hd2 : decide (r = s.next) = true := decide_eq_true hx
                have HX : Hid (ok1 s l j) := HO.out.2 (.inr ⟨hg, ha, hx⟩)
                clear HO hpr hx ha
                go_wp2
                go_quiet (fail)
                go_wp2
                go_roundw
                case rel => exact ⟨j + 1, by omega, by go_num, fun i hi => (by by_cases e : i = j; exact e ▸ HX.out; exact HR.out i (by omega)), _, by rw [hg]; exact rfl, Below.drewN' HB.out _⟩
                case measure => simp [intOf]; omega
              · have hd2 : decide (r = s.next) = false := decide_eq_false hx
                have HX : Hid (¬ ok1 s l j) := fun h => by rcases HO.out.1 h with e | ⟨_, _, e⟩; exact hpr e; exact hx e
                clear HO hpr hx ha
                go_wp2
                go_quiet (fail)
                go_wp2
                go_ret
                exact ⟨by rw [HN.out j hlt HX.out]; rfl, Below.drewN' HB2.out _⟩
            · have ha2 : ((j : Int) != s.at_) = true := by rw [bne_iff_ne]; exact ha
              have HX : Hid (¬ ok1 s l j) := fun h => by rcases HO.out.1 h with e | ⟨_, e, _⟩; exact hpr e; exact ha e
              clear HO hpr ha
              go_wp2
              go_quiet (fail)
              go_wp2
              go_ret
              exact ⟨by rw [HN.out j hlt HX.out]; rfl, Below.drewN' HB2.out _⟩
      · obtain rfl : j = m := by omega
        have hlt2 : (j : Int) ≤ (j : Int) := Int.le_refl _
        go_wp2
        go_ret
        exact ⟨by rw [HA.out HR.out]; rfl, HB2.out⟩
  · have hnm2 : ((m : Int) == (n : Int)) = false := by rw [beq_eq_false_iff_ne]; omega
    have hnm3 : ((m : Int) != (n : Int)) = true := by rw [bne_iff_ne]; omega
    rw [may_len (by omega)]
    clear hnm
    go_enter Try.func18, Try.ntmps18
    go_wp2
    go_ret
    exact ⟨rfl, by repeat (first | exact Below.refl _ _ | apply below_al)⟩
end Ref9
end Go.Proofs.Ytlfabajceflpdaa
