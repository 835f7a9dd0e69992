/- Contracts of package model, of slices at sectors. -/
import Derived.Test.YtlfabajceflpdaaEq4
namespace Go.Proofs.Ytlfabajceflpdaa
open Go.RowKit Md
set_option linter.unusedVariables false
attribute [local go_sem] max2_int min2_int max_two min_two Sec.eqx Sec.guardx
/-- A state's cells. -/
def sbox (a : Option Addr) (n cap : Nat) (s : St) : Obj := .cells #[.slice a n cap, .bool s.going, .int .i64 s.at_, .int .u32 s.next.a, .int .u32 s.next.b, .int .u32 s.next.c, .int .u32 s.next.d] 28
namespace Mod
set_option maxRecDepth 100000 in
theorem has_c {w : World} {a : Option Addr} {n cap : Nat} {s : St} (hl : Lv w a n cap s.sure) (hn : n ≤ 2000) (x : Int) :
    Calls Try.prog 23 #[stv a n cap s, .int .i64 x] w fun e w' => e = .returned (.bool (has s x)) ∧ w.alloc (sbox a n cap s) = w' := by
  have h1 := hl.len
  have h2 : (n : Int) ≤ 2000 := by omega
  unfold stv has sbox
  rw [h1]
  by_cases hx : x < 0
  · rw [decide_eq_false (show ¬ 0 ≤ x by omega), Bool.false_and]
    go_enter Try.func23, Try.ntmps23
    go_wp2
    go_ret
    exact ⟨rfl, rfl⟩
  · have hx2 : 0 ≤ x := by omega
    rw [decide_eq_true hx2, Bool.true_and]
    go_enter Try.func23, Try.ntmps23
    go_wp2
    go_ret
    exact ⟨rfl, rfl⟩
theorem V.eq_of {u v : V} : (u = v) ↔ (u.a = v.a ∧ u.b = v.b ∧ u.c = v.c ∧ u.d = v.d) := by
  cases u; cases v; simp
set_option maxRecDepth 100000 in
theorem equal_c {w : World} {a b : Option Addr} {n m cap kap : Nat} {l k : List V} (hl : Lv w a n cap l) (hk : Lv w b m kap k) (hn : n ≤ 2000) (hm : m ≤ 2000) :
    Calls Try.prog 24 #[.slice a n cap, .slice b m kap] w fun e w' => e = .returned (.bool (decide (l = k))) ∧ Below w.heap.size w w' := by
  have h1 := hl.len
  have h2 := hk.len
  have h3 : (n : Int) ≤ 2000 := by omega
  have h4 : (m : Int) ≤ 2000 := by omega
  by_cases hnm : n = m
  · subst hnm
    go_enter Try.func24, Try.ntmps24
    go_wp2
    go_loopw [13] (fun i wr => ∃ j : Nat, j ≤ n ∧ i = .int .i64 j ∧ Below w.heap.size w wr ∧ ∀ i, i < j → l.getD i V.z = k.getD i V.z) (fun i _ => n - (intOf i).toNat)
    case atStart => exact ⟨0, Nat.zero_le _, rfl, Below.refl _ _, fun i hi => absurd hi (by omega)⟩
    case round =>
      obtain ⟨j, hj, rfl, hB, hE⟩ := hrel
      by_cases hlt : j < n
      · obtain ⟨b1, o1, rfl, v1⟩ := hl.at_ hlt
        obtain ⟨b2, o2, rfl, v2⟩ := hk.at_ hlt
        obtain ⟨x0, x1, x2, x3⟩ := (v1 j hlt).below hB
        obtain ⟨y0, y1, y2, y3⟩ := (v2 j hlt).below hB
        have hlt2 : (j : Int) < (n : Int) := by omega
        have hE2 := Lib.hid hE
        clear hE v1 v2
        generalize hp : l.getD j V.z = p at *
        generalize hq : k.getD j V.z = q at *
        replace hp := Lib.hid hp
        replace hq := Lib.hid hq
        by_cases hpq : p = q
        · subst hpq
          go_wp2
          go_quiet (fail)
          go_wp2
          go_roundw
          case rel => exact ⟨j + 1, by omega, by go_num, Below.drewN' hB _, fun i hi => by
            by_cases e : i = j
            · subst e; rw [hp.out, hq.out]
            · exact hE2.out i (by omega)⟩
          case measure => simp [intOf]; omega
        · have hd : decide (p = q) = false := decide_eq_false hpq
          go_wp2
          go_quiet (fail)
          go_wp2
          go_ret
          refine ⟨?_, Below.drewN' hB _⟩
          rw [decide_eq_false (fun e => hpq (by rw [← hp.out, ← hq.out, e]))]; rfl
      · have hlt2 : (n : Int) ≤ (j : Int) := by omega
        have hE2 := Lib.hid hE
        clear hE
        go_wp2
        go_ret
        refine ⟨?_, hB⟩
        rw [decide_eq_true (Md.ext_getD (by omega) fun i hi => hE2.out i (by omega))]; rfl
  · have hnm2 : ((n : Int) == (m : Int)) = false := by rw [beq_eq_false_iff_ne]; omega
    have hnm3 : ((n : Int) != (m : Int)) = true := by rw [bne_iff_ne]; omega
    have hne : ¬ l = k := fun e => hnm (by rw [← h1, ← h2, e])
    clear hnm
    go_enter Try.func24, Try.ntmps24
    go_wp2
    go_ret
    refine ⟨?_, Below.refl _ _⟩
    rw [decide_eq_false hne]; rfl
set_option maxRecDepth 100000 in
theorem clone_c {w : World} {a : Option Addr} {n cap : Nat} {l : List V} (hl : Lv w a n cap l) (hn : n ≤ 2000) :
    Calls Try.prog 22 #[.slice a n cap] w fun e w' => ∃ v, e = .returned v ∧ OwnsV w' w.heap.size v n l ∧ Below w.heap.size w w' := by
  have q : ∀ (w : World) (a : Option Addr) (n c n' c' : Nat), (binOp .eql 22 (.slice a n c) (.slice none n' c')).run Try.prog w = .ok (.bool a.isNone) w := fun w a n c n' c' => Lib.run_eql_slice_nil w _ _ a n c n' c' Sec.under4
  cases a with
  | none =>
    have h0 : n = 0 ∧ cap = 0 := by
      rcases hl.is with ⟨_, e1, e2⟩ | ⟨ad, e, _⟩
      · exact ⟨e1, e2⟩
      · cases e
    obtain ⟨rfl, rfl⟩ := h0
    have hz : l = [] := List.length_eq_zero_iff.1 hl.len
    subst hz
    go_enter Try.func22, Try.ntmps22
    go_wp2
    go_ret
    exact ⟨_, rfl, World.ownsRow_nil _ _ _ _, Below.refl _ _⟩
  | some ad =>
    have hl2 : Lv (w.alloc (.cells #[] 24)) (some ad) n cap l := hl.below ((Below.refl _ w).alloc (Nat.le_refl _) _)
    go_enter Try.func22, Try.ntmps22
    go_wp2_with (at_builtin; refine append_v (by go_simp) _ _ rfl w.heap.size _ 0 [] rfl (World.ownsRow_made w #[] 0 (Nat.le_refl _) (Nat.zero_le _) rfl) rfl hl2 (by omega) (by simp) ?_; intro v2 w8 o2 gr2 _)
    go_ret
    rw [List.nil_append, Nat.zero_add] at o2
    exact ⟨_, rfl, o2, ((Below.refl _ w).alloc (Nat.le_refl _) _).grown gr2 (by simp) (by intro k hk; cases hk; exact Nat.le_refl _)⟩
end Mod
end Go.Proofs.Ytlfabajceflpdaa
